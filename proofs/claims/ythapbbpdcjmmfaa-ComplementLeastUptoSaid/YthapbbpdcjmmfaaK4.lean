/-
  Joined texts: steps of this claim, part 4. No condition beyond those that each statement names.
-/
import Derived.Test.YthapbbpdcjmmfaaK3
import Derived.Shelf.Spec.SlicesGrow
import Derived.Test.YthapbbpdcjmmfaaProg
/- Forests of numbers: their roots, uniting, flattening; partitions. No program in sight. -/
namespace Go.Proofs.Ythapbbpdcjmmfaa
open Abs
set_option linter.unusedSimpArgs false
set_option linter.unusedVariables false

/-- Each element points to itself or to a lesser one. -/
structure Forest (p : List Int) : Prop where
  le : ∀ i, i < p.length → 0 ≤ nth p i ∧ nth p i ≤ i

def rtF (p : List Int) : Nat → Nat → Nat
  | 0, i => i
  | k + 1, i => if nth p i = i then i else rtF p k (nth p i).toNat
/-- The root of an element. -/
def rt (p : List Int) (i : Nat) : Nat := rtF p i i

theorem Forest.at {p : List Int} (h : Forest p) {i : Nat} (hi : i < p.length) : ∃ j : Nat, nth p i = j ∧ j ≤ i := by
  obtain ⟨h1, h2⟩ := h.le i hi
  obtain ⟨j, hj⟩ := Int.eq_ofNat_of_zero_le h1
  exact ⟨j, hj, by omega⟩

theorem rtF_fuel {p : List Int} (h : Forest p) : ∀ {k k' i : Nat}, i < p.length → i ≤ k → i ≤ k' → rtF p k i = rtF p k' i
  | 0, 0, i, _, _, _ => rfl
  | 0, k' + 1, i, hi, h1, _ => by
    have : i = 0 := by omega
    subst this
    obtain ⟨j, hj, hle⟩ := h.at hi
    have : j = 0 := by omega
    subst this
    simp [rtF, hj]
  | k + 1, 0, i, hi, _, h2 => by
    have : i = 0 := by omega
    subst this
    obtain ⟨j, hj, hle⟩ := h.at hi
    have : j = 0 := by omega
    subst this
    simp [rtF, hj]
  | k + 1, k' + 1, i, hi, h1, h2 => by
    obtain ⟨j, hj, hle⟩ := h.at hi
    by_cases e : j = i
    · subst e
      simp [rtF, hj]
    · have e' : ¬ (j : Int) = i := by omega
      simp only [rtF, hj, if_neg e', Int.toNat_natCast]
      exact rtF_fuel h (by omega) (by omega) (by omega)

theorem rt_root {p : List Int} {i : Nat} (h : nth p i = i) : rt p i = i := by
  unfold rt
  cases i with
  | zero => rfl
  | succ k => simp only [rtF, if_pos h]

theorem rt_step {p : List Int} (h : Forest p) {i j : Nat} (hi : i < p.length) (hj : nth p i = j) : rt p i = rt p j := by
  obtain ⟨j', hj', hle⟩ := h.at hi
  have : j = j' := by omega
  subst this
  by_cases e : j = i
  · rw [e]
  · have e' : ¬ (j : Int) = i := by omega
    unfold rt
    cases i with
    | zero => omega
    | succ k =>
      simp only [rtF, hj, if_neg e', Int.toNat_natCast]
      exact rtF_fuel h (by omega) (by omega) (by omega)

theorem rt_spec {p : List Int} (h : Forest p) : ∀ {i : Nat}, i < p.length → rt p i ≤ i ∧ nth p (rt p i) = (rt p i : Nat)
  | i, hi => by
    obtain ⟨j, hj, hle⟩ := h.at hi
    by_cases e : j = i
    · subst e
      rw [rt_root hj]
      exact ⟨Nat.le_refl _, hj⟩
    · have ih := rt_spec h (i := j) (by omega)
      rw [rt_step h hi hj]
      exact ⟨by omega, ih.2⟩
termination_by i => i
decreasing_by omega

/-- All point to their roots. -/
def flatL (p : List Int) : List Int := (List.range p.length).map fun i => (rt p i : Int)
theorem flatL_len {p : List Int} : (flatL p).length = p.length := by simp [flatL]
theorem flatL_nth {p : List Int} {i : Nat} (hi : i < p.length) : nth (flatL p) i = (rt p i : Nat) := by
  rw [nth_eq (by rw [flatL_len]; exact hi)]
  simp [flatL]

theorem nth_set {p : List Int} {h j : Nat} {v : Int} (hh : h < p.length) : nth (p.set h v) j = if j = h then v else nth p j := by
  unfold nth
  simp only [List.getD_eq_getElem?_getD, List.getElem?_set]
  by_cases e : j = h
  · subst e
    simp [hh]
  · rw [if_neg (fun e' => e e'.symm), if_neg e]

/-- Two elements are made one. -/
def uniteL (p : List Int) (a b : Nat) : List Int := p.set (max (rt p a) (rt p b)) (min (rt p a) (rt p b) : Nat)
theorem uniteL_len {p : List Int} {a b : Nat} : (uniteL p a b).length = p.length := by simp [uniteL]
theorem uniteL_forest {p : List Int} {a b : Nat} (h : Forest p) (ha : a < p.length) (hb : b < p.length) : Forest (uniteL p a b) := ⟨fun i hi => by
  rw [uniteL_len] at hi
  have h1 := rt_spec h ha
  have h2 := rt_spec h hb
  simp only [uniteL]
  rw [nth_set (by omega)]
  split
  · omega
  · exact h.le i hi⟩
theorem uniteL_rt {p : List Int} {a b : Nat} (h : Forest p) (ha : a < p.length) (hb : b < p.length) : ∀ {i : Nat}, i < p.length → rt (uniteL p a b) i = if rt p i = max (rt p a) (rt p b) then min (rt p a) (rt p b) else rt p i
  | i, hi => by
    have h1 := rt_spec h ha
    have h2 := rt_spec h hb
    have hu := uniteL_forest h ha hb
    have hn : ∀ j, nth (uniteL p a b) j = if j = max (rt p a) (rt p b) then ((min (rt p a) (rt p b) : Nat) : Int) else nth p j := fun j => by
      simp only [uniteL]
      exact nth_set (by omega)
    have hlo : nth p (min (rt p a) (rt p b)) = ((min (rt p a) (rt p b) : Nat) : Int) := by
      rcases Nat.le_total (rt p a) (rt p b) with q | q
      · rw [Nat.min_eq_left q]; exact h1.2
      · rw [Nat.min_eq_right q]; exact h2.2
    have hhi : nth p (max (rt p a) (rt p b)) = ((max (rt p a) (rt p b) : Nat) : Int) := by
      rcases Nat.le_total (rt p a) (rt p b) with q | q
      · rw [Nat.max_eq_right q]; exact h2.2
      · rw [Nat.max_eq_left q]; exact h1.2
    have hlor : rt (uniteL p a b) (min (rt p a) (rt p b)) = min (rt p a) (rt p b) := by
      apply rt_root
      rw [hn]
      split
      · rfl
      · exact hlo
    obtain ⟨j, hj, hle⟩ := h.at hi
    by_cases e : i = max (rt p a) (rt p b)
    · have er : rt p i = i := rt_root (by rw [e]; exact hhi)
      rw [er, if_pos e]
      have : nth (uniteL p a b) i = ((min (rt p a) (rt p b) : Nat) : Int) := by rw [hn, if_pos e]
      rw [rt_step hu (by rw [uniteL_len]; exact hi) this, hlor]
    · have hni : nth (uniteL p a b) i = nth p i := by rw [hn, if_neg e]
      by_cases e2 : j = i
      · subst e2
        have er : rt p j = j := rt_root hj
        rw [er, if_neg e]
        exact rt_root (by rw [hni, hj])
      · rw [rt_step hu (by rw [uniteL_len]; exact hi) (hni.trans hj), rt_step h hi hj]
        exact uniteL_rt h ha hb (by omega)
termination_by i => i
decreasing_by omega

/-- A partition in which two elements are equivalent, too. -/
def mergeL (p : List Int) (a b : Nat) : List Int := p.map fun k => if k = max (nth p a) (nth p b) then min (nth p a) (nth p b) else k
theorem mergeL_len {p : List Int} {a b : Nat} : (mergeL p a b).length = p.length := by simp [mergeL]
theorem mergeL_nth {p : List Int} {a b i : Nat} (hi : i < p.length) : nth (mergeL p a b) i = if nth p i = max (nth p a) (nth p b) then min (nth p a) (nth p b) else nth p i := by
  rw [nth_eq (by rw [mergeL_len]; exact hi), nth_eq hi]
  simp [mergeL]
theorem flat_unite {p : List Int} {a b : Nat} (h : Forest p) (ha : a < p.length) (hb : b < p.length) : flatL (uniteL p a b) = mergeL (flatL p) a b := by
  refine list_ext_nth (by rw [flatL_len, uniteL_len, mergeL_len, flatL_len]) fun i hi => ?_
  rw [flatL_len, uniteL_len] at hi
  rw [flatL_nth (by rw [uniteL_len]; exact hi), mergeL_nth (by rw [flatL_len]; exact hi), flatL_nth hi, flatL_nth ha, flatL_nth hb, uniteL_rt h ha hb hi]
  by_cases e : rt p i = max (rt p a) (rt p b)
  · rw [if_pos e, if_pos (by omega)]
    omega
  · rw [if_neg e, if_neg (by omega)]

/-- The partition into single elements. -/
def idL (n : Nat) : List Int := (List.range n).map fun (i : Nat) => (i : Int)
theorem idL_len {n : Nat} : (idL n).length = n := by simp [idL]
theorem idL_nth {n i : Nat} (h : i < n) : nth (idL n) i = i := by
  rw [nth_eq (by rw [idL_len]; exact h)]
  simp [idL]
theorem idL_forest {n : Nat} : Forest (idL n) := ⟨fun i hi => by
  rw [idL_len] at hi
  rw [idL_nth hi]
  omega⟩
theorem flat_id {n : Nat} : flatL (idL n) = idL n := by
  refine list_ext_nth (by rw [flatL_len]) fun i hi => ?_
  rw [flatL_len, idL_len] at hi
  rw [flatL_nth (by rw [idL_len]; exact hi), idL_nth hi, rt_root (idL_nth hi)]

/-- The finest partition in which the pairs are equivalent. -/
def genL (n : Nat) (l : List (Int × Int)) : List Int := l.foldl (fun p q => mergeL p q.1.toNat q.2.toNat) (idL n)
def genU (n : Nat) (l : List (Int × Int)) : List Int := l.foldl (fun p q => uniteL p q.1.toNat q.2.toNat) (idL n)
def pairsIn (l : List (Int × Int)) (n : Nat) : Prop := ∀ q ∈ l, 0 ≤ q.1 ∧ q.1 < n ∧ 0 ≤ q.2 ∧ q.2 < n
theorem fold_len {l : List (Int × Int)} {p : List Int} : (l.foldl (fun p q => uniteL p q.1.toNat q.2.toNat) p).length = p.length := by
  induction l generalizing p with
  | nil => rfl
  | cons q r ih => rw [List.foldl_cons, ih, uniteL_len]
theorem fold_mlen {l : List (Int × Int)} {p : List Int} : (l.foldl (fun p q => mergeL p q.1.toNat q.2.toNat) p).length = p.length := by
  induction l generalizing p with
  | nil => rfl
  | cons q r ih => rw [List.foldl_cons, ih, mergeL_len]
theorem fold_flat {n : Nat} {l : List (Int × Int)} {p : List Int} (h : Forest p) (hl : p.length = n) (hi : pairsIn l n) :
    Forest (l.foldl (fun p q => uniteL p q.1.toNat q.2.toNat) p) ∧ flatL (l.foldl (fun p q => uniteL p q.1.toNat q.2.toNat) p) = l.foldl (fun p q => mergeL p q.1.toNat q.2.toNat) (flatL p) := by
  induction l generalizing p with
  | nil => exact ⟨h, rfl⟩
  | cons q r ih =>
    have hq := hi q (by simp)
    rw [List.foldl_cons, List.foldl_cons, ← flat_unite h (by omega) (by omega)]
    exact ih (uniteL_forest h (by omega) (by omega)) (by rw [uniteL_len]; exact hl) fun x hx => hi x (List.mem_cons_of_mem _ hx)
theorem genU_ok {n : Nat} {l : List (Int × Int)} (hi : pairsIn l n) : Forest (genU n l) ∧ flatL (genU n l) = genL n l := by
  have := fold_flat idL_forest idL_len hi
  rw [flat_id] at this
  exact this
theorem genL_len {n : Nat} {l : List (Int × Int)} : (genL n l).length = n := by rw [genL, fold_mlen, idL_len]
theorem genU_len {n : Nat} {l : List (Int × Int)} : (genU n l).length = n := by rw [genU, fold_len, idL_len]
theorem genU_take {n : Nat} {l : List (Int × Int)} {k : Nat} (h : k < l.length) : genU n (l.take (k + 1)) = uniteL (genU n (l.take k)) (pth l k).1.toNat (pth l k).2.toNat := by
  rw [genU, take_succ_pth h, List.foldl_append]
  rfl
theorem genL_take {n : Nat} {l : List (Int × Int)} {k : Nat} (h : k < l.length) : genL n (l.take (k + 1)) = mergeL (genL n (l.take k)) (pth l k).1.toNat (pth l k).2.toNat := by
  rw [genL, take_succ_pth h, List.foldl_append]
  rfl

/-- A partition: each element points to the least one of its class. -/
structure Flat (p : List Int) : Prop where
  fo : Forest p
  fx : ∀ i, i < p.length → nth p (nth p i).toNat = nth p i
theorem flatL_flat {p : List Int} (h : Forest p) : Flat (flatL p) := by
  refine ⟨⟨fun i hi => ?_⟩, fun i hi => ?_⟩
  · rw [flatL_len] at hi
    rw [flatL_nth hi]
    have := (rt_spec h hi).1
    omega
  · rw [flatL_len] at hi
    have h1 := rt_spec h hi
    rw [flatL_nth hi, Int.toNat_natCast, flatL_nth (by omega), rt_root h1.2]
theorem genL_flat {n : Nat} {l : List (Int × Int)} (hi : pairsIn l n) : Flat (genL n l) := by
  obtain ⟨h1, h2⟩ := genU_ok hi
  rw [← h2]
  exact flatL_flat h1

/-- While a forest is being flattened. -/
def flatK (p : List Int) (k : Nat) : List Int := (List.range p.length).map fun i => if i < k then (rt p i : Int) else nth p i
theorem flatK_len {p : List Int} {k : Nat} : (flatK p k).length = p.length := by simp [flatK]
theorem flatK_nth {p : List Int} {k i : Nat} (hi : i < p.length) : nth (flatK p k) i = if i < k then (rt p i : Int) else nth p i := by
  rw [nth_eq (by rw [flatK_len]; exact hi)]
  simp [flatK]
theorem flatK_zero {p : List Int} : flatK p 0 = p := by
  refine list_ext_nth (by rw [flatK_len]) fun i hi => ?_
  rw [flatK_len] at hi
  rw [flatK_nth hi, if_neg (by omega)]
theorem flatK_all {p : List Int} : flatK p p.length = flatL p := by
  refine list_ext_nth (by rw [flatK_len, flatL_len]) fun i hi => ?_
  rw [flatK_len] at hi
  rw [flatK_nth hi, if_pos hi, flatL_nth hi]
theorem flatK_set {p : List Int} {k : Nat} (hk : k < p.length) : (flatK p k).set k (rt p k : Int) = flatK p (k + 1) := by
  refine list_ext_nth (by rw [List.length_set, flatK_len, flatK_len]) fun i hi => ?_
  rw [List.length_set, flatK_len] at hi
  rw [nth_set (by rw [flatK_len]; exact hk), flatK_nth hi, flatK_nth hi]
  by_cases e : i = k
  · subst e
    rw [if_pos rfl, if_pos (by omega)]
  · rw [if_neg e]
    by_cases e2 : i < k
    · rw [if_pos e2, if_pos (by omega)]
    · rw [if_neg e2, if_neg (by omega)]
theorem flatK_forest {p : List Int} {k : Nat} (h : Forest p) : Forest (flatK p k) := ⟨fun i hi => by
  rw [flatK_len] at hi
  rw [flatK_nth hi]
  split
  · have := (rt_spec h hi).1
    omega
  · exact h.le i hi⟩
theorem flatK_rt {p : List Int} {k : Nat} (h : Forest p) : ∀ {i : Nat}, i < p.length → rt (flatK p k) i = rt p i
  | i, hi => by
    have hf := flatK_forest (k := k) h
    have h1 := rt_spec h hi
    obtain ⟨j, hj, hle⟩ := h.at hi
    by_cases e : i < k
    · have hn : nth (flatK p k) i = (rt p i : Nat) := by rw [flatK_nth hi, if_pos e]
      rw [rt_step hf (by rw [flatK_len]; exact hi) hn]
      apply rt_root
      have h2 : rt p i < p.length := by omega
      rw [flatK_nth h2]
      split
      · rw [rt_root h1.2]
      · exact h1.2
    · have hn : nth (flatK p k) i = j := by rw [flatK_nth hi, if_neg e, hj]
      by_cases e2 : j = i
      · subst e2
        rw [rt_root hn, rt_root hj]
      · rw [rt_step hf (by rw [flatK_len]; exact hi) hn, rt_step h hi hj]
        exact flatK_rt h (by omega)
termination_by i => i
decreasing_by omega
end Go.Proofs.Ythapbbpdcjmmfaa

/- The library contract of slices.Grow at this program, laid by hand out of the kit's own; slices.Concat. -/
namespace Go.Proofs.Ythapbbpdcjmmfaa
open Abs Go.RowKit
set_option linter.unusedSimpArgs false
set_option linter.unusedVariables false
attribute [local simp] rn0 rn1 rn2 rn3 rn4 rn5 rn6 rn7 evOp nests Arg.ev St.val St.set St.new sliceOf binInt2 binInt AV.cells rdAt St.live retOf resOf resAll treeOf treeCell treeCells treeTups untree frameOf TV.av TR.av ints edgs prs fillV splice intsOf trees V1.tree bx Gr.v Pa.v

def growRen : Go.Shelf.Ren := ⟨fun | 4 => 82 | n => n, fun | 25 => 3 | 22 => 22 | 20 => 20 | n => n, fun | n => n⟩
theorem growLay : Go.Proofs.Lays8.n4 Try.prog growRen := {
  mixed := by kernel_rfl
  f4 := ⟨"slices.Grow[[]int,int]", by decide, Try.func82.trans (congrArg some (by kernel_rfl))⟩
  t0 := Try.underlying0
  a0 := Try.isAgg0
  z0 := Try.sizeOf0
  v0 := Try.zeroValue0
  t3 := Try.underlying3
  a3 := Try.isAgg3
  z3 := Try.sizeOf3
  v3 := Try.zeroValue3
  t4 := Try.underlying4
  a4 := Try.isAgg4
  z4 := Try.sizeOf4
  v4 := Try.zeroValue4
  t9 := Try.underlying9
  a9 := Try.isAgg9
  z9 := Try.sizeOf9
  v9 := Try.zeroValue9
  t20 := Try.underlying20
  a20 := Try.isAgg20
  z20 := Try.sizeOf20
  v20 := Try.zeroValue20
  t22 := Try.underlying22
  a22 := Try.isAgg22
  z22 := Try.sizeOf22
  v22 := Try.zeroValue22 }

theorem callS_grow (n : Nat) (hn0 : 0 < n) (hn : n ≤ 1000000) (nm : Nat) {ob : Nm → Option Ob} {cnt : Nat → Nat} {R : AV → (Nm → Option Ob) → (Nat → Nat) → Prop}
    (hR : R (.one (.row (nm, cnt nm))) (upd ob (nm, cnt nm) (some ⟨true, true, false, 1, 0, 3, []⟩)) (upd cnt nm (cnt nm + 1))) : CallS Try.prog 82 [.one .nil, .one (.t (.int .i64 n))] ob cnt R := by
  refine ⟨callable_of Try.func82 (by kernel_rfl), fun w0 Zc m w cargs hr hlen hargs => ?_⟩
  have h0 : cargs.size = 2 := by simpa using hlen.symm
  obtain ⟨A, hv0⟩ := hargs 0 (.one .nil) cargs[0] rfl (by simp [h0])
  have hv1 := one_int (hargs 1 (.one (.t (.int .i64 n))) cargs[1] rfl (by simp [h0]))
  have e : cargs = #[.slice A 0 0, .int .i64 n] := by
    apply Array.ext (by simp [h0])
    intro i h1 h2
    have : i = 0 ∨ i = 1 := by omega
    rcases this with rfl | rfl
    · simpa using hv0
    · simpa using hv1
  rw [e]
  have key : (Try.prog.info? 3).map (fun i => (i.zero, i.size, i.bytes)) = some (some (.int .i64 0), 1, 8) := by kernel_rfl
  obtain ⟨i0, hi0, hk⟩ := Option.map_eq_some_iff.1 key
  obtain ⟨hz0, hk⟩ := Prod.mk.inj hk
  obtain ⟨hs1, hb8⟩ := Prod.mk.inj hk
  refine (Go.Proofs.Any8.slices_Grow_grow growLay i0 (.int .i64 0) hi0 hz0 (by omega) A 0 0 n [] w (by omega) (by omega) (by rw [hb8]; omega) (by omega) (by simp) (fun _ => rfl) (fun a _ j v hj => by simp at hj)).mono ?_
  have et : growRen.t 25 = 3 := rfl
  rw [et]
  rintro e w' ⟨rfl, hw⟩
  have hge := grownCap_ge w (0 + n) 0 3
  have hcm := grownCap_le_maxLen w (0 + n) 0 3 (by simp only [maxLen]; omega)
  have hbel : Below w.heap.size w w' := by
    rw [hw]
    exact ⟨rfl, rfl, rfl, by simp, fun k hk => (heap_alloc_old w.drew _ hk).trans rfl⟩
  have hh : ∃ arr : Array Value, w'.heap[w.heap.size]? = some (.cells arr 3 (0, 0)) ∧ arr.size = grownCap w (0 + n) 0 3 := by
    rw [hw]
    refine ⟨_, heap_alloc_new w.drew _, ?_⟩
    have hge' : n ≤ grownCap w n 0 3 := by simpa using hge
    simp only [Array.size_append, size_zeroCells, Value.cells, List.size_toArray, List.length_nil]
    simp
    omega
  obtain ⟨arr, hh, hsz⟩ := hh
  refine ⟨_, _, _, _, m.set (nm, cnt nm) w.heap.size (grownCap w (0 + n) 0 3), rfl, hR, hr_new_at hr nm ⟨true, true, false, 1, 0, 3, []⟩ (grownCap w (0 + n) 0 3) w.heap.size (Nat.le_refl _) hbel (fun _ => ⟨arr, hh, ?_, fun j x hx => by simp at hx⟩), ext_new_at hr nm _ _ w.heap.size (Nat.le_refl _) (fun b hb' => hbel.block b hb') hbel.size, ?_⟩
  · simp only [if_true]
    exact ⟨by omega, by omega, hcm, rfl, by omega, fun v hv => by simp at hv⟩
  · exact ⟨_, upd_same .., rfl, by simp [Map.set, upd_same]⟩

theorem callS_grow0 {ob : Nm → Option Ob} {cnt : Nat → Nat} {R : AV → (Nm → Option Ob) → (Nat → Nat) → Prop} (hR : R (.one .nil) ob cnt) : CallS Try.prog 82 [.one .nil, .one (.t (.int .i64 0))] ob cnt R := by
  refine ⟨callable_of Try.func82 (by kernel_rfl), fun w0 Zc m w cargs hr hlen hargs => ?_⟩
  have h0 : cargs.size = 2 := by simpa using hlen.symm
  obtain ⟨A, hv0⟩ := hargs 0 (.one .nil) cargs[0] rfl (by simp [h0])
  have hv1 := one_int (hargs 1 (.one (.t (.int .i64 0))) cargs[1] rfl (by simp [h0]))
  have e : cargs = #[.slice A 0 0, .int .i64 (0 : Nat)] := by
    apply Array.ext (by simp [h0])
    intro i h1 h2
    have : i = 0 ∨ i = 1 := by omega
    rcases this with rfl | rfl
    · simpa using hv0
    · simpa using hv1
  rw [e]
  refine (Go.Proofs.Any8.slices_Grow_room growLay A 0 0 0 w (by omega) (by omega) (by omega) (by omega)).mono ?_
  rintro e w' ⟨rfl, rfl⟩
  exact ⟨_, .one .nil, ob, cnt, m, rfl, hR, hr, Ext.refl .., A, rfl⟩

theorem kApp_row {nm nm' g typ esz bytes n k : Nat} {cs ts : List C} {S : St} {K : Eff → Prop} {news : List V1} (hnews : news = ts.map .t) (ho : S.ob (nm', g) = some ⟨true, true, false, esz, n, typ, cs.map .t⟩) (hl : ts.length = k * esz) (hb : (n + k) * bytes ≤ 140737488355328) (hn : n + k ≤ 9000000000000000000)
    (hK : ∀ E : Eff, E.v = .one (.row (nm, S.cnt nm)) → E.ob (nm, S.cnt nm) = some ⟨true, true, false, esz, n + k, typ, (cs ++ ts).map .t⟩ → K E) : kApp nm typ esz bytes (.one (.row (nm', g))) (some (k, news)) S K := by
  subst hnews
  unfold kApp evApp
  simp only [trees_t, St.live, ho, if_true]
  rw [if_pos ⟨trivial, trivial, trivial, trivial, hb, by simpa using hl, by omega⟩]
  exact ⟨_, rfl, hK _ rfl (by simp [upd_same])⟩

/-- Two lists, as a slice of slices. -/
def twoL (a b : List Int) : C := .sl 2 [ints a, ints b]

def c_concat : MFunc := ⟨36, [.tmp 2], .seq (.region [⟨some 2, .mv (.c (.one .nil)), none⟩]) (.seq (.region [⟨some 3, .mv (.c (.one (.t (.int .i64 0)))), none⟩]) (.seq (.seq (.region [⟨some 9, .mv (.tmp 0), none⟩, ⟨some 10, .len (.tmp 9), none⟩, ⟨some 11, .mv (.c (.one (.t (.int .i64 0)))), none⟩]) (.block 0 (.loop (.seq (.region [⟨some 12, .bin .lss (.tmp 11) (.tmp 10), none⟩]) (.seq (.cond (.tmp 12) .skip (.exit 0)) (.seq (.block 1 (.seq (.region [⟨some 13, .idxA 1 (.tmp 9) (.tmp 11), none⟩, ⟨some 14, .load false 1 (.tmp 13), none⟩, ⟨some 5, .mv (.tmp 14), none⟩]) (.seq (.region [⟨some 15, .mv (.tmp 3), none⟩, ⟨some 16, .mv (.tmp 5), none⟩, ⟨some 17, .len (.tmp 16), none⟩, ⟨some 18, .bin .add (.tmp 15) (.tmp 17), none⟩, ⟨some 3, .mv (.tmp 18), none⟩]) (.seq (.region [⟨some 19, .mv (.tmp 3), none⟩, ⟨some 20, .bin .lss (.tmp 19) (.c (.one (.t (.int .i64 0)))), none⟩]) (.cond (.tmp 20) (.region [⟨some 21, .nilck (.c .undef), none⟩, ⟨none, .nilck (.c .undef), none⟩]) .skip))))) (.region [⟨some 22, .bin .add (.tmp 11) (.c (.one (.t (.int .i64 1)))), none⟩, ⟨some 11, .mv (.tmp 22), none⟩]))))))) (.seq (.region [⟨some 23, .mv (.tmp 3), none⟩, ⟨some 24, .call (.c (.one (.fn 82 []))) 577 [.c (.one .nil), .tmp 23], none⟩, ⟨some 6, .mv (.tmp 24), none⟩]) (.seq (.seq (.region [⟨some 25, .mv (.tmp 0), none⟩, ⟨some 26, .len (.tmp 25), none⟩, ⟨some 27, .mv (.c (.one (.t (.int .i64 0)))), none⟩]) (.block 2 (.loop (.seq (.region [⟨some 28, .bin .lss (.tmp 27) (.tmp 26), none⟩]) (.seq (.cond (.tmp 28) .skip (.exit 2)) (.seq (.block 3 (.seq (.region [⟨some 29, .idxA 1 (.tmp 25) (.tmp 27), none⟩, ⟨some 30, .load false 1 (.tmp 29), none⟩, ⟨some 8, .mv (.tmp 30), none⟩]) (.region [⟨some 31, .mv (.tmp 6), none⟩, ⟨some 32, .mv (.tmp 8), none⟩, ⟨some 33, .append 834 3 1 8 (.tmp 31) (.tmp 32), none⟩, ⟨some 6, .mv (.tmp 33), none⟩]))) (.region [⟨some 34, .bin .add (.tmp 27) (.c (.one (.t (.int .i64 1)))), none⟩, ⟨some 27, .mv (.tmp 34), none⟩]))))))) (.seq (.region [⟨some 35, .mv (.tmp 6), none⟩, ⟨some 2, .mv (.tmp 35), none⟩]) .ret)))))⟩
theorem k_concat : cFn Try.prog Try.f59 = some c_concat := by kernel_rfl
theorem concat_row (a b : List Int) (ha : a.length ≤ 100000) (hb : b.length ≤ 100000) : RowI Try.prog 59 [(false, [twoL a b])] 3 (a ++ b) := by
  refine callRow_W (plain_ints _) (by simp) (by omega) (callS_W (by kernel_rfl) Try.func59 k_concat (callable_of Try.func59 (by kernel_rfl)) (by simp [c_concat]) ?_)
  simp [c_concat, twoL]
  have w1 : IntKind.i64.wrap (0 + (a.length : Int)) = a.length := by rw [wrap64_id] <;> omega
  have w1' : IntKind.i64.wrap ((a.length : Int)) = a.length := by rw [wrap64_id] <;> omega
  have w2 : IntKind.i64.wrap ((a.length : Int) + b.length) = ((a.length + b.length : Nat) : Int) := by rw [wrap64_id] <;> omega
  refine loopW_count 11 2 (fun k S => S.fr 0 = .one (.t (twoL a b)) ∧ S.fr 9 = .one (.t (twoL a b)) ∧ S.fr 10 = .one (.t (.int .i64 2)) ∧ S.fr 3 = .one (.t (.int .i64 (if k = 0 then 0 else if k = 1 then a.length else ((a.length + b.length : Nat) : Int)))) ∧ S.ob = noOb ∧ S.cnt = noCnt) (by omega) ?_ ?_ ?_
  · simp [twoL]
  · rintro k S hlt hw hc ⟨f0, f9, f10, f3, o0, c0⟩
    have : k = 0 ∨ k = 1 := by omega
    rcases this with rfl | rfl
    · have n1 : ¬ (a.length : Int) < 0 := by omega
      simp at f3 hw
      simp [twoL, f0, f9, f10, f3, o0, c0, hc, w1, w1', n1, hw]
    · have n1 : ¬ ((a.length : Int) + b.length) < 0 := by omega
      simp at f3 hw w2
      simp [twoL, f0, f9, f10, f3, o0, c0, hc, w2, n1, hw]
  · rintro S hc ⟨f0, f9, f10, f3, o0, c0⟩
    simp at f3
    simp [twoL, f0, f9, f10, f3, o0, c0, hc]
    by_cases hz : a.length + b.length = 0
    · have z1 : a = [] := List.eq_nil_of_length_eq_zero (by omega)
      have z2 : b = [] := List.eq_nil_of_length_eq_zero (by omega)
      subst z1 z2
      refine callS_grow0 ?_
      simp [twoL, f0, f9, f10, f3, hc]
      refine loopW_count 27 2 (fun k S => S.fr 25 = .one (.t (twoL [] [])) ∧ S.fr 26 = .one (.t (.int .i64 2)) ∧ S.fr 6 = .one .nil) (by omega) ?_ ?_ ?_
      · simp [twoL]
      · rintro k S hlt hw hc ⟨f25, f26, f6⟩
        have : k = 0 ∨ k = 1 := by omega
        rcases this with rfl | rfl <;> simp at hw hc <;> simp [twoL, f25, f26, f6, hc, hw] <;> refine kApp_nil (ts := []) rfl rfl (by omega) (by omega) ?_ <;> simp [rowEff, twoL, f25, f26, f6, hc, hw]
      · rintro S hc ⟨f25, f26, f6⟩
        simp [twoL, f25, f26, f6, hc, rowIs]
    · have ec : ((a.length : Int) + b.length) = ((a.length + b.length : Nat) : Int) := by omega
      first | rw [ec] | skip
      refine callS_grow (a.length + b.length) (by omega) (by omega) 577 ?_
      simp [twoL, f0, f9, f10, f3, hc]
      refine loopW_count 27 2 (fun k S => S.fr 25 = .one (.t (twoL a b)) ∧ S.fr 26 = .one (.t (.int .i64 2)) ∧ ∃ nm g, S.fr 6 = .one (.row (nm, g)) ∧ S.ob (nm, g) = some ⟨true, true, false, 1, (if k = 0 then [] else if k = 1 then a else a ++ b).length, 3, ((if k = 0 then [] else if k = 1 then a else a ++ b).map (.int .i64)).map .t⟩) (by omega) ?_ ?_ ?_
      · simp [twoL]
      · rintro k S hlt hw hc ⟨f25, f26, nm, g, f6, ho⟩
        have : k = 0 ∨ k = 1 := by omega
        rcases this with rfl | rfl
        · simp at hw hc ho
          simp [twoL, f25, f26, f6, hc, hw]
          refine kApp_row (cs := []) (ts := a.map (.int .i64)) (by simp) ho (by simp) (by omega) (by omega) fun E hv he => ?_
          simp [twoL, f25, f26, f6, hc, hw, hv]
          exact ⟨_, _, ⟨rfl, rfl⟩, by simpa using he⟩
        · simp at hw hc ho
          simp [twoL, f25, f26, f6, hc, hw]
          refine kApp_row (cs := a.map (.int .i64)) (ts := b.map (.int .i64)) (by simp) (by simpa using ho) (by simp) (by omega) (by omega) fun E hv he => ?_
          simp [twoL, f25, f26, f6, hc, hw, hv]
          exact ⟨_, _, ⟨rfl, rfl⟩, by simpa using he⟩
      · rintro S hc ⟨f25, f26, nm, g, f6, ho⟩
        simp at ho
        simp [twoL, f25, f26, f6, hc]
        exact .inr ⟨by omega, _, _, rfl, ho, rfl, rfl, rfl, rfl, by simp, by simp⟩
end Go.Proofs.Ythapbbpdcjmmfaa

/- Contracts: numbers from a first one on; forests: roots, uniting, flattening; partitions of pairs. -/
namespace Go.Proofs.Ythapbbpdcjmmfaa
open Abs
set_option linter.unusedSimpArgs false
set_option linter.unusedVariables false
attribute [local simp] rn0 rn1 rn2 rn3 rn4 rn5 rn6 rn7 evOp nests Arg.ev St.val St.set St.new sliceOf binInt2 binInt AV.cells rdAt St.live retOf resOf resAll treeOf treeCell treeCells treeTups untree frameOf TV.av TR.av ints edgs prs fillV splice intsOf trees V1.tree bx Gr.v Pa.v

/-- So many numbers from a first one on. -/
def numL (a n : Nat) : List Int := (List.range n).map fun (i : Nat) => ((a + i : Nat) : Int)
theorem numL_len {a n : Nat} : (numL a n).length = n := by simp [numL]
theorem numL_succ {a n : Nat} : numL a (n + 1) = numL a n ++ [((a + n : Nat) : Int)] := by simp [numL, List.range_succ]
theorem numL_nth {a n i : Nat} (h : i < n) : nth (numL a n) i = ((a + i : Nat) : Int) := by
  rw [nth_eq (by rw [numL_len]; exact h)]
  simp [numL]

def c_gnumbers : MFunc := ⟨19, [.tmp 4], .seq (.region [⟨some 4, .mv (.c (.one .nil)), none⟩]) (.seq (.region [⟨some 5, .mv (.c (.one .nil)), none⟩]) (.seq (.seq (.region [⟨some 7, .mv (.tmp 1), none⟩, ⟨some 8, .mv (.c (.one (.t (.int .i64 0)))), none⟩]) (.block 0 (.loop (.seq (.region [⟨some 9, .bin .lss (.tmp 8) (.tmp 7), none⟩]) (.seq (.cond (.tmp 9) .skip (.exit 0)) (.seq (.block 1 (.seq (.region [⟨some 10, .mv (.tmp 8), none⟩, ⟨some 6, .mv (.tmp 10), none⟩]) (.region [⟨some 11, .mv (.tmp 5), none⟩, ⟨some 12, .mv (.tmp 0), none⟩, ⟨some 13, .mv (.tmp 6), none⟩, ⟨some 14, .bin .add (.tmp 12) (.tmp 13), none⟩, ⟨some 15, .mkrow 324 3 1 1 [.t (.int .i64 0)] [(0, (1, .tmp 14))], none⟩, ⟨some 16, .append 325 3 1 8 (.tmp 11) (.tmp 15), none⟩, ⟨some 5, .mv (.tmp 16), none⟩]))) (.region [⟨some 17, .bin .add (.tmp 8) (.c (.one (.t (.int .i64 1)))), none⟩, ⟨some 8, .mv (.tmp 17), none⟩]))))))) (.seq (.region [⟨some 18, .mv (.tmp 5), none⟩, ⟨some 4, .mv (.tmp 18), none⟩]) .ret)))⟩
theorem k_gnumbers : cFn Try.prog Try.f123 = some c_gnumbers := by kernel_rfl
theorem gnumbers_row (a n : Nat) (ha : tiny a) (hn : tiny n) : RowI Try.prog 123 [(false, [.int .i64 a]), (false, [.int .i64 n])] 3 (numL a n) := by
  refine callRow_W (plain_ints _) (by simp) (by omega) (callS_W (by kernel_rfl) Try.func123 k_gnumbers (callable_of Try.func123 (by kernel_rfl)) (by simp [c_gnumbers]) ?_)
  simp [c_gnumbers]
  refine loopW_count 8 n (fun k S => S.fr 0 = .one (.t (.int .i64 a)) ∧ S.fr 7 = .one (.t (.int .i64 n)) ∧ outR 325 3 1 (numL a k).length ((numL a k).map (.int .i64)) S.ob (S.fr 5)) hn.small ?_ ?_ ?_
  · simp [numL, outR_nil]
  · rintro k S hlt hw hc ⟨f0, f7, ho⟩
    have z := numL_len (a := a) (n := k)
    simp only [tiny] at ha hn
    have w1 : IntKind.i64.wrap ((a : Int) + k) = ((a + k : Nat) : Int) := by rw [wrap64_id] <;> omega
    simp [f0, f7, hc, hlt, w1]
    refine kApp_grow (ts := [.int .i64 ((a + k : Nat) : Int)]) (by simp) (ho.keep fun g => by simp) (by omega) rfl (by omega) (by omega) fun E hE hob hcnt => ?_
    simp [f0, f7, hc, hw, numL_succ]
    simpa using hE
  · rintro S hc ⟨f0, f7, ho⟩
    obtain ⟨u, hu⟩ := ho.one
    rw [hu] at ho
    simp [f0, f7, hc, hu]
    exact ho.rowIs

/-- A row of numbers. -/
def rowO (l : List Int) : Ob := ⟨true, true, false, 1, l.length, 3, (l.map (.int .i64)).map .t⟩

def c_root : MFunc := ⟨16, [.tmp 4], .seq (.region [⟨some 4, .mv (.c (.one (.t (.int .i64 0)))), none⟩]) (.seq (.block 0 (.loop (.seq (.seq (.region [⟨some 5, .mv (.tmp 0), none⟩, ⟨some 6, .mv (.tmp 1), none⟩, ⟨some 7, .idxA 1 (.tmp 5) (.tmp 6), none⟩, ⟨some 8, .load false 1 (.tmp 7), none⟩, ⟨some 9, .mv (.tmp 1), none⟩, ⟨some 10, .bin .neq (.tmp 8) (.tmp 9), none⟩]) (.cond (.tmp 10) .skip (.exit 0))) (.block 1 (.region [⟨some 11, .mv (.tmp 0), none⟩, ⟨some 12, .mv (.tmp 1), none⟩, ⟨some 13, .idxA 1 (.tmp 11) (.tmp 12), none⟩, ⟨some 14, .load false 1 (.tmp 13), none⟩, ⟨some 1, .mv (.tmp 14), none⟩]))))) (.seq (.region [⟨some 15, .mv (.tmp 1), none⟩, ⟨some 4, .mv (.tmp 15), none⟩]) .ret))⟩
theorem k_root : cFn Try.prog Try.f140 = some c_root := by kernel_rfl
theorem root_ok (p : List Int) (i : Nat) (hp : Forest p) (hi : i < p.length) (hl : tiny p.length) : CallOK Try.prog 140 [(false, [ints p]), (false, [.int .i64 i])] (.sv (false, [.int .i64 (rt p i)])) := by
  refine callOK_W (callS_W (by kernel_rfl) Try.func140 k_root (callable_of Try.func140 (by kernel_rfl)) (by simp [c_root]) ?_)
  simp [c_root]
  refine loopW_intro (fun S => S.fr 0 = .one (.t (ints p)) ∧ ∃ j : Nat, j < p.length ∧ S.fr 1 = .one (.t (.int .i64 j)) ∧ rt p j = rt p i) (fun S => match S.fr 1 with | .one (.t (.int _ j)) => j.toNat | _ => 0) ⟨by simp, i, hi, by simp, rfl⟩ ?_
  rintro S ⟨f0, j, hj, f1, hr⟩
  obtain ⟨j', hj', hle⟩ := hp.at hj
  by_cases e : j' = j
  · subst e
    have er : rt p i = j' := by rw [← hr]; exact rt_root hj'
    simp [f0, f1, hj, drop_nth hj, hj', er]
  · have e' : ¬ (j' : Int) = j := by omega
    have hlt : j' < j := by omega
    have hj2 : j' < p.length := by omega
    have e3 : rt p j' = rt p i := by rw [← rt_step hp hj hj']; exact hr
    simp [f0, f1, hj, drop_nth hj, hj', e', e]
    exact ⟨⟨j', hj2, rfl, e3⟩, hlt⟩

def c_finest : MFunc := ⟨18, [.tmp 2], .seq (.region [⟨some 2, .mv (.c (.one .nil)), none⟩]) (.seq (.region [⟨some 5, .mv (.tmp 0), none⟩, ⟨some 6, .make 65 3 1 8 [.t (.int .i64 0)] (.tmp 5) (.tmp 5), none⟩, ⟨some 3, .mv (.tmp 6), none⟩]) (.seq (.seq (.region [⟨some 7, .mv (.tmp 3), none⟩, ⟨some 8, .len (.tmp 7), none⟩, ⟨some 9, .mv (.c (.one (.t (.int .i64 0)))), none⟩]) (.block 0 (.loop (.seq (.region [⟨some 10, .bin .lss (.tmp 9) (.tmp 8), none⟩]) (.seq (.cond (.tmp 10) .skip (.exit 0)) (.seq (.block 1 (.seq (.region [⟨some 11, .mv (.tmp 9), none⟩, ⟨some 4, .mv (.tmp 11), none⟩]) (.region [⟨some 12, .mv (.tmp 3), none⟩, ⟨some 13, .mv (.tmp 4), none⟩, ⟨some 14, .mv (.tmp 4), none⟩, ⟨some 15, .idxA 1 (.tmp 12) (.tmp 13), none⟩, ⟨none, .store 1 (.tmp 15) (.tmp 14), none⟩]))) (.region [⟨some 16, .bin .add (.tmp 9) (.c (.one (.t (.int .i64 1)))), none⟩, ⟨some 9, .mv (.tmp 16), none⟩]))))))) (.seq (.region [⟨some 17, .mv (.tmp 3), none⟩, ⟨some 2, .mv (.tmp 17), none⟩]) .ret)))⟩
theorem k_finest : cFn Try.prog Try.f134 = some c_finest := by kernel_rfl
theorem finestS (n : Nat) (hn : tiny n) {ob : Nm → Option Ob} {cnt : Nat → Nat} {R : AV → (Nm → Option Ob) → (Nat → Nat) → Prop}
    (hR : ∀ ob', ob' (65, cnt 65) = some (rowO (idL n)) → (∀ o, o ≠ (65, cnt 65) → ob' o = ob o) → R (.one (.row (65, cnt 65))) ob' (upd cnt 65 (cnt 65 + 1))) : CallS Try.prog 134 [.one (.t (.int .i64 n))] ob cnt R := by
  refine callS_W (by kernel_rfl) Try.func134 k_finest (callable_of Try.func134 (by kernel_rfl)) (by simp [c_finest]) ?_
  have hn' := hn
  simp only [tiny] at hn'
  have n1 : n * 8 ≤ 140737488355328 := by omega
  have n2 : (n : Int) ≤ 9223372036854775807 := by omega
  simp [c_finest, n1, n2]
  refine loopW_count 9 n (fun k S => S.fr 3 = .one (.row (65, cnt 65)) ∧ S.fr 8 = .one (.t (.int .i64 n)) ∧ S.cnt = upd cnt 65 (cnt 65 + 1) ∧ S.ob (65, cnt 65) = some ⟨true, true, false, 1, n, 3, fillL (idL n) k n⟩ ∧ ∀ o, o ≠ (65, cnt 65) → S.ob o = ob o) hn.small ?_ ?_ ?_
  · simp [fillL_zero]
    intro a b h h1 h2
    exact absurd h2 (h h1)
  · rintro k S hlt hw hc ⟨f3, f8, hcn, o65, hoth⟩
    have e2 := fillL_set (l := idL n) (k := k) (n := n) idL_len hlt
    rw [idL_nth hlt] at e2
    have e3 := fillL_len (l := idL n) (k := k) (n := n) idL_len (by omega)
    have hlt1 : k + 1 ≤ n := hlt
    simp [f3, f8, o65, hc, hlt, hlt1, hw, e2, e3, hcn]
    intro a b h
    rw [if_neg (fun q => h q.1 q.2)]
    exact hoth _ (by rintro e; cases e; exact h rfl rfl)
  · rintro S hc ⟨f3, f8, hcn, o65, hoth⟩
    rw [fillL_all idL_len] at o65
    simp [f3, f8, hc]
    rw [hcn]
    exact hR _ (by rw [o65, rowO, idL_len]) hoth

theorem row_set {p : List Int} {k : Nat} {v : Int} (hk : k < p.length) : (p.map (V1.t ∘ C.int .i64)).take k ++ .t (.int .i64 v) :: (p.map (V1.t ∘ C.int .i64)).drop (k + 1) = (p.set k v).map (V1.t ∘ C.int .i64) := by
  rw [List.set_eq_take_append_cons_drop, if_pos hk]
  simp

theorem rowO_tree {p : List Int} {o : Nm} {fr : Nat → AV} {ob : Nm → Option Ob} {cnt : Nat → Nat} (h : ob o = some (rowO p)) : treeCell ⟨fr, ob, cnt⟩ (.row o) = some (ints p) := treeCell_row h

def c_unite : MFunc := ⟨22, [], .seq (.region [⟨some 8, .mv (.tmp 0), none⟩, ⟨some 9, .mv (.tmp 1), none⟩, ⟨some 10, .call (.c (.one (.fn 140 []))) 2 [.tmp 8, .tmp 9], none⟩, ⟨some 11, .mv (.tmp 0), none⟩, ⟨some 12, .mv (.tmp 2), none⟩, ⟨some 13, .call (.c (.one (.fn 140 []))) 5 [.tmp 11, .tmp 12], none⟩, ⟨some 6, .mv (.tmp 10), none⟩, ⟨some 7, .mv (.tmp 13), none⟩]) (.region [⟨some 14, .mv (.tmp 0), none⟩, ⟨some 15, .mv (.tmp 6), none⟩, ⟨some 16, .mv (.tmp 7), none⟩, ⟨some 17, .minmax true (.tmp 15) (.tmp 16), none⟩, ⟨some 18, .mv (.tmp 6), none⟩, ⟨some 19, .mv (.tmp 7), none⟩, ⟨some 20, .minmax false (.tmp 18) (.tmp 19), none⟩, ⟨some 21, .idxA 1 (.tmp 14) (.tmp 17), none⟩, ⟨none, .store 1 (.tmp 21) (.tmp 20), none⟩])⟩
theorem k_unite : cFn Try.prog Try.f135 = some c_unite := by kernel_rfl
theorem uniteS (p : List Int) (a b : Nat) (hp : Forest p) (ha : a < p.length) (hb : b < p.length) (hl : tiny p.length) {o : Nm} {ob : Nm → Option Ob} {cnt : Nat → Nat} {R : AV → (Nm → Option Ob) → (Nat → Nat) → Prop} (ho : ob o = some (rowO p))
    (hR : ∀ ob', ob' o = some (rowO (uniteL p a b)) → (∀ o', o' ≠ o → ob' o' = ob o') → R (.tup []) ob' cnt) : CallS Try.prog 135 [.one (.row o), .one (.t (.int .i64 a)), .one (.t (.int .i64 b))] ob cnt R := by
  refine callS_W (by kernel_rfl) Try.func135 k_unite (callable_of Try.func135 (by kernel_rfl)) (by simp [c_unite]) ?_
  have h1 := rt_spec hp ha
  have h2 := rt_spec hp hb
  simp [c_unite]
  refine callS_tree (root_ok p a hp ha hl) ?_ ?_ ?_
  · simp [argTrees, argTree_one, rowO_tree ho, -treeCell, treeCell_t]
    try simp [treeCell]
  · rfl
  simp
  refine callS_tree (root_ok p b hp hb hl) ?_ ?_ ?_
  · simp [argTrees, argTree_one, rowO_tree ho, -treeCell, treeCell_t]
    try simp [treeCell]
  · rfl
  have hm : max (rt p a) (rt p b) < p.length := by omega
  have hm1 : max (rt p a) (rt p b) + 1 ≤ p.length := hm
  have e1 : max (rt p a : Int) (rt p b) = ((max (rt p a) (rt p b) : Nat) : Int) := by omega
  have e2 : min (rt p a : Int) (rt p b) = ((min (rt p a) (rt p b) : Nat) : Int) := by omega
  have e3 := row_set (v := ((min (rt p a) (rt p b) : Nat) : Int)) hm
  generalize hM : max (rt p a) (rt p b) = M at *
  generalize hm' : min (rt p a) (rt p b) = m' at *
  have hm2 : M < p.length := hm
  simp [ho, rowO, e1, e2, hm, hm1, e3]
  refine hR _ ?_ fun o' h' => upd_ne _ _ h'
  rw [upd_same]
  simp [rowO, uniteL, hM, hm', List.map_set]

def c_flat : MFunc := ⟨17, [.tmp 2], .seq (.region [⟨some 2, .mv (.c (.one .nil)), none⟩]) (.seq (.seq (.region [⟨some 4, .mv (.tmp 0), none⟩, ⟨some 5, .len (.tmp 4), none⟩, ⟨some 6, .mv (.c (.one (.t (.int .i64 0)))), none⟩]) (.block 0 (.loop (.seq (.region [⟨some 7, .bin .lss (.tmp 6) (.tmp 5), none⟩]) (.seq (.cond (.tmp 7) .skip (.exit 0)) (.seq (.block 1 (.seq (.region [⟨some 8, .mv (.tmp 6), none⟩, ⟨some 3, .mv (.tmp 8), none⟩]) (.region [⟨some 9, .mv (.tmp 0), none⟩, ⟨some 10, .mv (.tmp 3), none⟩, ⟨some 11, .mv (.tmp 0), none⟩, ⟨some 12, .mv (.tmp 3), none⟩, ⟨some 13, .call (.c (.one (.fn 140 []))) 260 [.tmp 11, .tmp 12], none⟩, ⟨some 14, .idxA 1 (.tmp 9) (.tmp 10), none⟩, ⟨none, .store 1 (.tmp 14) (.tmp 13), none⟩]))) (.region [⟨some 15, .bin .add (.tmp 6) (.c (.one (.t (.int .i64 1)))), none⟩, ⟨some 6, .mv (.tmp 15), none⟩]))))))) (.seq (.region [⟨some 16, .mv (.tmp 0), none⟩, ⟨some 2, .mv (.tmp 16), none⟩]) .ret))⟩
theorem k_flat : cFn Try.prog Try.f136 = some c_flat := by kernel_rfl
theorem flatS (p : List Int) (hp : Forest p) (hl : tiny p.length) {o : Nm} {ob : Nm → Option Ob} {cnt : Nat → Nat} {R : AV → (Nm → Option Ob) → (Nat → Nat) → Prop} (ho : ob o = some (rowO p))
    (hR : ∀ ob', ob' o = some (rowO (flatL p)) → (∀ o', o' ≠ o → ob' o' = ob o') → R (.one (.row o)) ob' cnt) : CallS Try.prog 136 [.one (.row o)] ob cnt R := by
  refine callS_W (by kernel_rfl) Try.func136 k_flat (callable_of Try.func136 (by kernel_rfl)) (by simp [c_flat]) ?_
  simp [c_flat, ho, rowO]
  refine loopW_count 6 p.length (fun k S => S.fr 0 = .one (.row o) ∧ S.fr 5 = .one (.t (.int .i64 p.length)) ∧ S.cnt = cnt ∧ S.ob o = some (rowO (flatK p k)) ∧ ∀ o', o' ≠ o → S.ob o' = ob o') hl.small ?_ ?_ ?_
  · simp [flatK_zero, rowO, ho]
  · rintro k S hlt hw hc ⟨f0, f5, hcn, ok, hoth⟩
    have hk : k < (flatK p k).length := by rw [flatK_len]; exact hlt
    have hlt1 : k + 1 ≤ p.length := hlt
    simp [f0, f5, hc, hlt, hw]
    refine callS_tree (root_ok (flatK p k) k (flatK_forest hp) hk (by rw [flatK_len]; exact hl)) ?_ ?_ ?_
    · simp [argTrees, argTree_one, rowO_tree ok, -treeCell, treeCell_t]
      try simp [treeCell]
    · rfl
    rw [flatK_rt hp hlt]
    simp [f0, f5, hc, hlt, hlt1, hw, ok, rowO, flatK_len, hcn]
    refine ⟨?_, fun a b hab => ?_⟩
    · rw [row_set hk, flatK_set hlt]
    · rw [if_neg hab]
      exact hoth _ hab
  · rintro S hc ⟨f0, f5, hcn, ok, hoth⟩
    rw [flatK_all] at ok
    simp [f0, f5, hc]
    rw [hcn]
    exact hR _ ok hoth

def c_generate : MFunc := ⟨50, [.tmp 4, .tmp 5], .seq (.region [⟨some 4, .mv (.c (.one .nil)), none⟩, ⟨some 5, .mv (.c (.one (.t (.int .i64 0)))), none⟩]) (.seq (.seq (.region [⟨some 9, .mv (.tmp 0), none⟩, ⟨some 10, .bin .gtr (.tmp 9) (.c (.one (.t (.int .i64 80)))), none⟩]) (.cond (.tmp 10) (.seq (.region [⟨some 4, .mv (.c (.one .nil)), none⟩, ⟨some 5, .mv (.c (.one (.t (.int .i64 3)))), none⟩]) .ret) .skip)) (.seq (.seq (.region [⟨some 11, .mv (.tmp 0), none⟩, ⟨some 12, .bin .lss (.tmp 11) (.c (.one (.t (.int .i64 0)))), none⟩]) (.cond (.tmp 12) (.seq (.region [⟨some 4, .mv (.c (.one .nil)), none⟩, ⟨some 5, .mv (.c (.one (.t (.int .i64 6)))), none⟩]) .ret) .skip)) (.seq (.region [⟨some 13, .mv (.tmp 0), none⟩, ⟨some 14, .call (.c (.one (.fn 134 []))) 321 [.tmp 13], none⟩, ⟨some 6, .mv (.tmp 14), none⟩]) (.seq (.seq (.region [⟨some 15, .mv (.tmp 1), none⟩, ⟨some 16, .len (.tmp 15), none⟩, ⟨some 17, .mv (.c (.one (.t (.int .i64 0)))), none⟩]) (.block 0 (.loop (.seq (.region [⟨some 18, .bin .lss (.tmp 17) (.tmp 16), none⟩]) (.seq (.cond (.tmp 18) .skip (.exit 0)) (.seq (.block 1 (.seq (.region [⟨some 19, .idxA 2 (.tmp 15) (.tmp 17), none⟩, ⟨some 20, .load true 2 (.tmp 19), none⟩, ⟨some 8, .alloc 514 57 [.t (.int .i64 0), .t (.int .i64 0)], none⟩, ⟨none, .store 2 (.tmp 8) (.tmp 20), none⟩]) (.seq (.seq (.region [⟨some 21, .fieldA 0 (.tmp 8), none⟩, ⟨some 22, .load false 1 (.tmp 21), none⟩, ⟨some 23, .bin .lss (.tmp 22) (.c (.one (.t (.int .i64 0)))), none⟩, ⟨some 24, .mv (.tmp 23), none⟩, ⟨some 25, .fieldA 0 (.tmp 8), some (24, false)⟩, ⟨some 26, .load false 1 (.tmp 25), some (24, false)⟩, ⟨some 27, .mv (.tmp 0), some (24, false)⟩, ⟨some 28, .bin .geq (.tmp 26) (.tmp 27), some (24, false)⟩, ⟨some 29, .pick (.tmp 24) (.c (.one (.t (.bool true)))) (.tmp 28), none⟩, ⟨some 30, .mv (.tmp 29), none⟩, ⟨some 31, .fieldA 1 (.tmp 8), some (30, false)⟩, ⟨some 32, .load false 1 (.tmp 31), some (30, false)⟩, ⟨some 33, .bin .lss (.tmp 32) (.c (.one (.t (.int .i64 0)))), some (30, false)⟩, ⟨some 34, .pick (.tmp 30) (.c (.one (.t (.bool true)))) (.tmp 33), none⟩, ⟨some 35, .mv (.tmp 34), none⟩, ⟨some 36, .fieldA 1 (.tmp 8), some (35, false)⟩, ⟨some 37, .load false 1 (.tmp 36), some (35, false)⟩, ⟨some 38, .mv (.tmp 0), some (35, false)⟩, ⟨some 39, .bin .geq (.tmp 37) (.tmp 38), some (35, false)⟩, ⟨some 40, .pick (.tmp 35) (.c (.one (.t (.bool true)))) (.tmp 39), none⟩]) (.cond (.tmp 40) (.seq (.region [⟨some 4, .mv (.c (.one .nil)), none⟩, ⟨some 5, .mv (.c (.one (.t (.int .i64 6)))), none⟩]) .ret) .skip)) (.region [⟨some 41, .mv (.tmp 6), none⟩, ⟨some 42, .fieldA 0 (.tmp 8), none⟩, ⟨some 43, .load false 1 (.tmp 42), none⟩, ⟨some 44, .fieldA 1 (.tmp 8), none⟩, ⟨some 45, .load false 1 (.tmp 44), none⟩, ⟨some 46, .call (.c (.one (.fn 135 []))) 709 [.tmp 41, .tmp 43, .tmp 45], none⟩])))) (.region [⟨some 47, .bin .add (.tmp 17) (.c (.one (.t (.int .i64 1)))), none⟩, ⟨some 17, .mv (.tmp 47), none⟩]))))))) (.seq (.region [⟨some 48, .mv (.tmp 6), none⟩, ⟨some 49, .call (.c (.one (.fn 136 []))) 833 [.tmp 48], none⟩, ⟨some 4, .mv (.tmp 49), none⟩, ⟨some 5, .mv (.c (.one (.t (.int .i64 0)))), none⟩]) .ret)))))⟩
theorem k_generate : cFn Try.prog Try.f124 = some c_generate := by kernel_rfl
theorem generate_ok (n : Nat) (l : List (Int × Int)) (hn : n ≤ 80) (hl : tiny l.length) (hi : pairsIn l n) : CallOK Try.prog 124 [(false, [.int .i64 n]), (false, [prs l])] (.tup [(false, [ints (genL n l)]), (false, [.int .i64 0])]) := by
  refine callOK_W (callS_W (by kernel_rfl) Try.func124 k_generate (callable_of Try.func124 (by kernel_rfl)) (by simp [c_generate]) ?_)
  have n1 : ¬ (80 : Int) < n := by omega
  have n2 : ¬ 80 < n := by omega
  simp [c_generate, n1, n2]
  refine finestS n (by simp only [tiny]; omega) fun ob1 h1 hoth1 => ?_
  simp
  refine loopW_count 17 l.length (fun k S => S.fr 0 = .one (.t (.int .i64 n)) ∧ S.fr 6 = .one (.row (65, 0)) ∧ S.fr 15 = .one (.t (prs l)) ∧ S.fr 16 = .one (.t (.int .i64 l.length)) ∧ S.ob (65, 0) = some (rowO (genU n (l.take k)))) hl.small ?_ ?_ ?_
  · simp
    rw [noCnt_app] at h1
    exact h1
  · rintro k S hlt hw hc ⟨f0, f6, f15, f16, o65⟩
    have hlt2 : k * 2 < l.length * 2 := by omega
    obtain ⟨a1, a2, b1, b2⟩ := hi _ (pth_mem hlt)
    obtain ⟨a, ha⟩ := Int.eq_ofNat_of_zero_le a1
    obtain ⟨b, hb⟩ := Int.eq_ofNat_of_zero_le b1
    have ha2 : a < n := by omega
    have hb2 : b < n := by omega
    have ha3 : ¬ n ≤ a := by omega
    have hb3 : ¬ n ≤ b := by omega
    have hsub : pairsIn (l.take k) n := fun x hx => hi x (List.mem_of_mem_take hx)
    obtain ⟨hf, _⟩ := genU_ok hsub
    have et := genU_take (n := n) hlt
    rw [ha, hb] at et
    simp [f0, f6, f15, f16, hc, hlt, hlt2, drop_prL hlt, ha, hb, ha2, hb2, ha3, hb3]
    refine uniteS (genU n (l.take k)) a b hf (by rw [genU_len]; exact ha2) (by rw [genU_len]; exact hb2) (by rw [genU_len]; simp only [tiny]; omega) (o := (65, 0)) (by simp [o65]) fun ob' h2 hoth2 => ?_
    simp [f0, f6, f15, f16, hc, hw, et, h2]
  · rintro S hc ⟨f0, f6, f15, f16, o65⟩
    rw [List.take_length] at o65
    obtain ⟨hf, he⟩ := genU_ok hi
    simp [f0, f6, f15, f16, hc]
    refine flatS (genU n l) hf (by rw [genU_len]; simp only [tiny]; omega) o65 fun ob' h2 hoth2 => ?_
    rw [he] at h2
    have et := fun fr cnt => rowO_tree (fr := fr) (cnt := cnt) h2
    simp [-treeCell, treeCell_t, et]
end Go.Proofs.Ythapbbpdcjmmfaa

/- Contracts: partitions are right; their classes numbered. -/
namespace Go.Proofs.Ythapbbpdcjmmfaa
open Abs
set_option linter.unusedSimpArgs false
set_option linter.unusedVariables false
attribute [local simp] rn0 rn1 rn2 rn3 rn4 rn5 rn6 rn7 evOp nests Arg.ev St.val St.set St.new sliceOf binInt2 binInt AV.cells rdAt St.live retOf resOf resAll treeOf treeCell treeCells treeTups untree frameOf TV.av TR.av ints edgs prs fillV splice intsOf trees V1.tree bx Gr.v Pa.v opRd opWr opNew opNewR opArgs argsRd argRd Arg.rd AV.refs V1.refs refsL dstL

theorem drop_nthR {l : List Int} {k : Nat} (h : k < l.length) : (l.map (V1.t ∘ C.int .i64)).drop k = .t (.int .i64 (nth l k)) :: (l.drop (k + 1)).map (V1.t ∘ C.int .i64) := by
  rw [nth_eq h, ← List.map_drop, List.drop_eq_getElem_cons h]
  rfl

/-- How many classes begin below a number. -/
def clsN (p : List Int) : Nat → Nat
  | 0 => 0
  | k + 1 => if nth p k = k then clsN p k + 1 else clsN p k
theorem clsN_le {p : List Int} : ∀ k, clsN p k ≤ k
  | 0 => Nat.le_refl _
  | k + 1 => by
    have := clsN_le (p := p) k
    simp only [clsN]
    split <;> omega
theorem clsN_mono {p : List Int} {a : Nat} : ∀ {b : Nat}, a ≤ b → clsN p a ≤ clsN p b
  | 0, h => by
    have : a = 0 := by omega
    subst this
    exact Nat.le_refl _
  | b + 1, h => by
    by_cases e : a = b + 1
    · rw [e]; exact Nat.le_refl _
    · have := clsN_mono (p := p) (a := a) (b := b) (by omega)
      simp only [clsN]
      split <;> omega
theorem clsN_lt {p : List Int} {a b : Nat} (ha : nth p a = a) (h : a < b) : clsN p a < clsN p b := by
  have : clsN p (a + 1) = clsN p a + 1 := by simp only [clsN, if_pos ha]
  have := clsN_mono (p := p) (a := a + 1) (b := b) (by omega)
  omega

/-- The number of each element's class. -/
def quotK (p : List Int) (k : Nat) : List Int := (p.take k).map fun x => (clsN p x.toNat : Int)
def quotL (p : List Int) : List Int := p.map fun x => (clsN p x.toNat : Int)
theorem quotK_len {p : List Int} {k : Nat} (h : k ≤ p.length) : (quotK p k).length = k := by simp [quotK]; omega
theorem quotL_len {p : List Int} : (quotL p).length = p.length := by simp [quotL]
theorem quotK_succ {p : List Int} {k : Nat} (h : k < p.length) : quotK p (k + 1) = quotK p k ++ [(clsN p (nth p k).toNat : Int)] := by
  rw [quotK, take_succ_nth' h]
  simp [quotK]
theorem quotK_all {p : List Int} : quotK p p.length = quotL p := by simp [quotK, quotL]
theorem quotK_nth {p : List Int} {k i : Nat} (h : i < k) (hk : k ≤ p.length) : nth (quotK p k) i = (clsN p (nth p i).toNat : Nat) := by
  rw [nth_eq (by rw [quotK_len hk]; exact h), nth_eq (show i < p.length by omega)]
  simp [quotK]
theorem quotL_nth {p : List Int} {i : Nat} (h : i < p.length) : nth (quotL p) i = (clsN p (nth p i).toNat : Nat) := by
  rw [← quotK_all, quotK_nth h (Nat.le_refl _)]

def c_pright : MFunc := ⟨28, [.tmp 2], .seq (.region [⟨some 2, .mv (.c (.one (.t (.bool false)))), none⟩]) (.seq (.seq (.region [⟨some 5, .mv (.tmp 0), none⟩, ⟨some 6, .len (.tmp 5), none⟩, ⟨some 7, .mv (.c (.one (.t (.int .i64 0)))), none⟩]) (.block 0 (.loop (.seq (.region [⟨some 8, .bin .lss (.tmp 7) (.tmp 6), none⟩]) (.seq (.cond (.tmp 8) .skip (.exit 0)) (.seq (.block 1 (.seq (.region [⟨some 9, .mv (.tmp 7), none⟩, ⟨some 10, .idxA 1 (.tmp 5) (.tmp 7), none⟩, ⟨some 11, .load false 1 (.tmp 10), none⟩, ⟨some 3, .mv (.tmp 9), none⟩, ⟨some 4, .mv (.tmp 11), none⟩]) (.seq (.region [⟨some 12, .mv (.tmp 4), none⟩, ⟨some 13, .bin .lss (.tmp 12) (.c (.one (.t (.int .i64 0)))), none⟩, ⟨some 14, .mv (.tmp 13), none⟩, ⟨some 15, .mv (.tmp 4), some (14, false)⟩, ⟨some 16, .mv (.tmp 3), some (14, false)⟩, ⟨some 17, .bin .gtr (.tmp 15) (.tmp 16), some (14, false)⟩, ⟨some 18, .pick (.tmp 14) (.c (.one (.t (.bool true)))) (.tmp 17), none⟩, ⟨some 19, .mv (.tmp 18), none⟩, ⟨some 20, .mv (.tmp 0), some (19, false)⟩, ⟨some 21, .mv (.tmp 4), some (19, false)⟩, ⟨some 22, .idxA 1 (.tmp 20) (.tmp 21), some (19, false)⟩, ⟨some 23, .load false 1 (.tmp 22), some (19, false)⟩, ⟨some 24, .mv (.tmp 4), some (19, false)⟩, ⟨some 25, .bin .neq (.tmp 23) (.tmp 24), some (19, false)⟩, ⟨some 26, .pick (.tmp 19) (.c (.one (.t (.bool true)))) (.tmp 25), none⟩]) (.cond (.tmp 26) (.seq (.region [⟨some 2, .mv (.c (.one (.t (.bool false)))), none⟩]) .ret) .skip)))) (.region [⟨some 27, .bin .add (.tmp 7) (.c (.one (.t (.int .i64 1)))), none⟩, ⟨some 7, .mv (.tmp 27), none⟩]))))))) (.seq (.region [⟨some 2, .mv (.c (.one (.t (.bool true)))), none⟩]) .ret))⟩
theorem k_pright : cFn Try.prog Try.f141 = some c_pright := by kernel_rfl
theorem pright_ok (p : List Int) (hp : Flat p) (hl : tiny p.length) : CallOK Try.prog 141 [(false, [ints p])] (.sv (false, [.bool true])) := by
  refine callOK_W (callS_W (by kernel_rfl) Try.func141 k_pright (callable_of Try.func141 (by kernel_rfl)) (by simp [c_pright]) ?_)
  simp [c_pright]
  refine loopW_count 7 p.length (fun k S => S.fr 0 = .one (.t (ints p)) ∧ S.fr 5 = .one (.t (ints p)) ∧ S.fr 6 = .one (.t (.int .i64 p.length))) hl.small ?_ ?_ ?_
  · simp
  · rintro k S hlt hw hc ⟨f0, f5, f6⟩
    obtain ⟨x, hx, hle⟩ := hp.fo.at hlt
    have h2 := hp.fx k hlt
    rw [hx, Int.toNat_natCast] at h2
    have n1 : ¬ k < x := by omega
    have hx2 : x < p.length := by omega
    simp [f0, f5, f6, hc, hlt, hw, drop_nth hlt, hx, n1, hx2, drop_nth hx2, h2]
  · rintro S hc ⟨f0, f5, f6⟩
    simp [f0, f5, f6, hc]

def c_pone : MFunc := ⟨9, [.tmp 2], .seq (.region [⟨some 2, .mv (.c (.one (.t (.int .i64 0)))), none⟩]) (.seq (.seq (.region [⟨some 3, .mv (.tmp 0), none⟩, ⟨some 4, .len (.tmp 3), none⟩, ⟨some 5, .bin .gtr (.tmp 4) (.c (.one (.t (.int .i64 80)))), none⟩]) (.cond (.tmp 5) (.seq (.region [⟨some 2, .mv (.c (.one (.t (.int .i64 3)))), none⟩]) .ret) .skip)) (.seq (.seq (.region [⟨some 6, .mv (.tmp 0), none⟩, ⟨some 7, .call (.c (.one (.fn 141 []))) 193 [.tmp 6], none⟩, ⟨some 8, .not (.tmp 7), none⟩]) (.cond (.tmp 8) (.seq (.region [⟨some 2, .mv (.c (.one (.t (.int .i64 1)))), none⟩]) .ret) .skip)) (.seq (.region [⟨some 2, .mv (.c (.one (.t (.int .i64 0)))), none⟩]) .ret)))⟩
theorem k_pone : cFn Try.prog Try.f137 = some c_pone := by kernel_rfl
theorem pone_ok (p : List Int) (hp : Flat p) (hl : p.length ≤ 80) : CallOK Try.prog 137 [(false, [ints p])] (.sv (false, [.int .i64 0])) := by
  refine callOK_W (callS_W (by kernel_rfl) Try.func137 k_pone (callable_of Try.func137 (by kernel_rfl)) (by simp [c_pone]) ?_)
  have n1 : ¬ (80 : Int) < p.length := by omega
  have n2 : ¬ 80 < p.length := by omega
  simp [c_pone, n1, n2]
  refine callS_tree (pright_ok p hp (by simp only [tiny]; omega)) ?_ ?_ ?_
  · rfl
  · rfl
  simp

def c_pquot : MFunc := ⟨41, [.tmp 2, .tmp 3, .tmp 4], .seq (.region [⟨some 2, .mv (.c (.one .nil)), none⟩, ⟨some 3, .mv (.c (.one (.t (.int .i64 0)))), none⟩, ⟨some 4, .mv (.c (.one (.t (.int .i64 0)))), none⟩]) (.seq (.seq (.region [⟨some 10, .mv (.tmp 0), none⟩, ⟨some 11, .call (.c (.one (.fn 137 []))) 65 [.tmp 10], none⟩, ⟨some 5, .mv (.tmp 11), none⟩]) (.seq (.region [⟨some 12, .mv (.tmp 5), none⟩, ⟨some 13, .bin .neq (.tmp 12) (.c (.one (.t (.int .i64 0)))), none⟩]) (.cond (.tmp 13) (.seq (.region [⟨some 14, .mv (.tmp 5), none⟩, ⟨some 2, .mv (.c (.one .nil)), none⟩, ⟨some 3, .mv (.c (.one (.t (.int .i64 0)))), none⟩, ⟨some 4, .mv (.tmp 14), none⟩]) .ret) .skip))) (.seq (.region [⟨some 6, .mv (.c (.one .nil)), none⟩]) (.seq (.region [⟨some 7, .mv (.c (.one (.t (.int .i64 0)))), none⟩]) (.seq (.seq (.region [⟨some 15, .mv (.tmp 0), none⟩, ⟨some 16, .len (.tmp 15), none⟩, ⟨some 17, .mv (.c (.one (.t (.int .i64 0)))), none⟩]) (.block 0 (.loop (.seq (.region [⟨some 18, .bin .lss (.tmp 17) (.tmp 16), none⟩]) (.seq (.cond (.tmp 18) .skip (.exit 0)) (.seq (.block 1 (.seq (.region [⟨some 19, .mv (.tmp 17), none⟩, ⟨some 20, .idxA 1 (.tmp 15) (.tmp 17), none⟩, ⟨some 21, .load false 1 (.tmp 20), none⟩, ⟨some 8, .mv (.tmp 19), none⟩, ⟨some 9, .mv (.tmp 21), none⟩]) (.seq (.region [⟨some 22, .mv (.tmp 9), none⟩, ⟨some 23, .mv (.tmp 8), none⟩, ⟨some 24, .bin .eql (.tmp 22) (.tmp 23), none⟩]) (.cond (.tmp 24) (.seq (.region [⟨some 25, .mv (.tmp 6), none⟩, ⟨some 26, .mv (.tmp 7), none⟩, ⟨some 27, .mkrow 642 3 1 1 [.t (.int .i64 0)] [(0, (1, .tmp 26))], none⟩, ⟨some 28, .append 643 3 1 8 (.tmp 25) (.tmp 27), none⟩, ⟨some 6, .mv (.tmp 28), none⟩]) (.region [⟨some 29, .mv (.tmp 7), none⟩, ⟨some 30, .bin .add (.tmp 29) (.c (.one (.t (.int .i64 1)))), none⟩, ⟨some 7, .mv (.tmp 30), none⟩])) (.region [⟨some 31, .mv (.tmp 6), none⟩, ⟨some 32, .mv (.tmp 6), none⟩, ⟨some 33, .mv (.tmp 9), none⟩, ⟨some 34, .idxA 1 (.tmp 32) (.tmp 33), none⟩, ⟨some 35, .load false 1 (.tmp 34), none⟩, ⟨some 36, .mkrow 773 3 1 1 [.t (.int .i64 0)] [(0, (1, .tmp 35))], none⟩, ⟨some 37, .append 774 3 1 8 (.tmp 31) (.tmp 36), none⟩, ⟨some 6, .mv (.tmp 37), none⟩]))))) (.region [⟨some 38, .bin .add (.tmp 17) (.c (.one (.t (.int .i64 1)))), none⟩, ⟨some 17, .mv (.tmp 38), none⟩]))))))) (.seq (.region [⟨some 39, .mv (.tmp 6), none⟩, ⟨some 40, .mv (.tmp 7), none⟩, ⟨some 2, .mv (.tmp 39), none⟩, ⟨some 3, .mv (.tmp 40), none⟩, ⟨some 4, .mv (.c (.one (.t (.int .i64 0)))), none⟩]) .ret)))))⟩
theorem k_pquot : cFn Try.prog Try.f125 = some c_pquot := by kernel_rfl
theorem pquot_ok (p : List Int) (hp : Flat p) (hl : p.length ≤ 80) : CallOK Try.prog 125 [(false, [ints p])] (.tup [(false, [ints (quotL p)]), (false, [.int .i64 (clsN p p.length)]), (false, [.int .i64 0])]) := by
  refine callOK_W (callS_W (by kernel_rfl) Try.func125 k_pquot (callable_of Try.func125 (by kernel_rfl)) (by simp [c_pquot]) ?_)
  simp [c_pquot]
  refine callS_tree (pone_ok p hp hl) ?_ ?_ ?_
  · rfl
  · rfl
  simp
  refine loopW_count 17 p.length (fun k S => S.fr 15 = .one (.t (ints p)) ∧ S.fr 16 = .one (.t (.int .i64 p.length)) ∧ S.fr 7 = .one (.t (.int .i64 (clsN p k))) ∧ outL [643, 774] 3 1 (quotK p k).length ((quotK p k).map (.int .i64)) S.ob (S.fr 6)) (by omega) ?_ ?_ ?_
  · simp [clsN, quotK, outL_nil]
  · rintro k S hlt hw hc ⟨f15, f16, f7, ho⟩
    obtain ⟨x, hx, hle⟩ := hp.fo.at hlt
    have z := quotK_len (p := p) (k := k) (by omega)
    have zs := quotK_succ hlt
    rw [hx, Int.toNat_natCast] at zs
    by_cases e : x = k
    · subst e
      have c1 : clsN p (x + 1) = clsN p x + 1 := by simp only [clsN, if_pos hx]
      have cl := clsN_le (p := p) x
      have w1 : IntKind.i64.wrap ((clsN p x : Int) + 1) = ((clsN p x + 1 : Nat) : Int) := by rw [wrap64_id] <;> omega
      simp [f15, f16, f7, hc, hlt, hw, drop_nth hlt, hx]
      refine kApp_growL (nms := [643, 774]) (ts := [.int .i64 (clsN p x)]) (by simp) (by simp) (ho.keep fun nm hm g => by simp at hm; rcases hm with rfl | rfl <;> simp) rfl (by omega) (by omega) fun E hE hob hcnt => ?_
      simp [f15, f16, f7, hc, hw, w1, c1, zs]
      simpa using hE
    · have e' : ¬ (x : Int) = k := by omega
      have c1 : clsN p (k + 1) = clsN p k := by simp only [clsN, hx, if_neg e']
      have hxk : x < k := by omega
      have hfx := hp.fx k hlt
      rw [hx, Int.toNat_natCast] at hfx
      have hq : nth (quotK p k) x = (clsN p x : Nat) := by rw [quotK_nth hxk (by omega), hfx, Int.toNat_natCast]
      have hxq : x < (quotK p k).length := by omega
      have hxq1 : x + 1 ≤ (quotK p k).length := hxq
      have ho0 := ho
      rcases ho with ⟨a1, _, a3⟩ | ⟨a1, nm, hnm, ga, a3, a4⟩
      · omega
      · simp at hnm
        rcases hnm with rfl | rfl
        all_goals
          simp [f15, f16, f7, a3, a4, hc, hlt, hw, drop_nth hlt, hx, e', e, hxq, hxq1, drop_nthR hxq, hq]
          refine kApp_growL (nms := [643, 774]) (ts := [.int .i64 (clsN p x)]) (by simp) (by simp) (by rw [← a3]; exact ho0.keep fun nm hm g => by simp at hm; rcases hm with rfl | rfl <;> simp) rfl (by omega) (by omega) fun E hE hob hcnt => ?_
          simp [f15, f16, f7, hc, hw, c1, zs]
          simpa using hE
  · rintro S hc ⟨f15, f16, f7, ho⟩
    rw [quotK_all] at ho
    obtain ⟨u, hu⟩ := ho.one
    have et : ∀ fr cnt, treeCell ⟨fr, S.ob, cnt⟩ u = some (ints (quotL p)) := fun fr cnt => by
      rw [hu] at ho
      rcases ho with ⟨a1, _, a3⟩ | ⟨a1, nm, hnm, ga, a3, a4⟩
      · cases a3
        have : quotL p = [] := List.eq_nil_of_length_eq_zero a1
        rw [this]
        rfl
      · cases a3
        exact treeCell_row a4
    simp [f15, f16, f7, hc, hu, -treeCell, treeCell_t, et]

def c_valid02 : MFunc := ⟨40, [.tmp 2], .seq (.region [⟨some 2, .mv (.c (.one (.t (.bool false)))), none⟩]) (.seq (.seq (.region [⟨some 4, .mv (.tmp 0), none⟩, ⟨some 5, .len (.tmp 4), none⟩, ⟨some 6, .bin .gtr (.tmp 5) (.c (.one (.t (.int .i64 80)))), none⟩]) (.cond (.tmp 6) (.seq (.region [⟨some 2, .mv (.c (.one (.t (.bool false)))), none⟩]) .ret) .skip)) (.seq (.seq (.region [⟨some 3, .mv (.c (.one (.t (.int .i64 0)))), none⟩]) (.block 0 (.loop (.seq (.seq (.region [⟨some 7, .mv (.tmp 3), none⟩, ⟨some 8, .mv (.tmp 0), none⟩, ⟨some 9, .len (.tmp 8), none⟩, ⟨some 10, .bin .lss (.tmp 7) (.tmp 9), none⟩]) (.cond (.tmp 10) .skip (.exit 0))) (.seq (.block 1 (.seq (.draw [[], [], [0, 1], [2], [3], [4], [5], [5], [6, 7, 5], [8, 5], [5], [9, 10, 5], [5, 11], [12, 5], [13], [13], [13], [15, 16, 13], [17, 13], [14, 18, 13], [19, 13], [13], [13], [21, 22, 13], [23, 13], [20, 24, 13], [13, 25]] [⟨some 13, .mv (.tmp 0), none⟩, ⟨some 14, .mv (.tmp 3), none⟩, ⟨some 15, .idxA 1 (.tmp 13) (.tmp 14), none⟩, ⟨some 16, .load false 1 (.tmp 15), none⟩, ⟨some 17, .bin .lss (.tmp 16) (.c (.one (.t (.int .i64 0)))), none⟩, ⟨some 18, .mv (.tmp 17), none⟩, ⟨some 19, .mv (.tmp 0), some (18, false)⟩, ⟨some 20, .mv (.tmp 3), some (18, false)⟩, ⟨some 21, .idxA 1 (.tmp 19) (.tmp 20), some (18, false)⟩, ⟨some 22, .load false 1 (.tmp 21), some (18, false)⟩, ⟨some 23, .mv (.tmp 3), some (18, false)⟩, ⟨some 24, .bin .gtr (.tmp 22) (.tmp 23), some (18, false)⟩, ⟨some 25, .pick (.tmp 18) (.c (.one (.t (.bool true)))) (.tmp 24), none⟩, ⟨some 26, .mv (.tmp 25), none⟩, ⟨some 27, .mv (.tmp 0), some (26, false)⟩, ⟨some 28, .mv (.tmp 0), some (26, false)⟩, ⟨some 29, .mv (.tmp 3), some (26, false)⟩, ⟨some 30, .idxA 1 (.tmp 28) (.tmp 29), some (26, false)⟩, ⟨some 31, .load false 1 (.tmp 30), some (26, false)⟩, ⟨some 32, .idxA 1 (.tmp 27) (.tmp 31), some (26, false)⟩, ⟨some 33, .load false 1 (.tmp 32), some (26, false)⟩, ⟨some 34, .mv (.tmp 0), some (26, false)⟩, ⟨some 35, .mv (.tmp 3), some (26, false)⟩, ⟨some 36, .idxA 1 (.tmp 34) (.tmp 35), some (26, false)⟩, ⟨some 37, .load false 1 (.tmp 36), some (26, false)⟩, ⟨some 38, .bin .neq (.tmp 33) (.tmp 37), some (26, false)⟩, ⟨some 39, .pick (.tmp 26) (.c (.one (.t (.bool true)))) (.tmp 38), none⟩]) (.cond (.tmp 39) (.seq (.region [⟨some 2, .mv (.c (.one (.t (.bool false)))), none⟩]) .ret) .skip))) (.region [⟨some 11, .mv (.tmp 3), none⟩, ⟨some 12, .bin .add (.tmp 11) (.c (.one (.t (.int .i64 1)))), none⟩, ⟨some 3, .mv (.tmp 12), none⟩])))))) (.seq (.region [⟨some 2, .mv (.c (.one (.t (.bool true)))), none⟩]) .ret)))⟩
theorem k_valid02 : cFn Try.prog Try.f139 = some c_valid02 := by kernel_rfl
theorem valid02_ok (p : List Int) (hp : Flat p) (hl : p.length ≤ 80) : CallOK Try.prog 139 [(false, [ints p])] (.sv (false, [.bool true])) := by
  refine callOK_W (callS_W (by kernel_rfl) Try.func139 k_valid02 (callable_of Try.func139 (by kernel_rfl)) (by simp [c_valid02]) ?_)
  have n1 : ¬ (80 : Int) < p.length := by omega
  have n2 : ¬ 80 < p.length := by omega
  simp [c_valid02, n1, n2]
  refine loopW_count 3 p.length (fun k S => S.fr 0 = .one (.t (ints p))) (by omega) ?_ ?_ ?_
  · simp
  · rintro k S hlt hw hc f0
    obtain ⟨x, hx, hle⟩ := hp.fo.at hlt
    have h2 := hp.fx k hlt
    rw [hx, Int.toNat_natCast] at h2
    have n1 : ¬ k < x := by omega
    have hx2 : x < p.length := by omega
    simp [dw0, dw1, dw2, dw3, f0, hc, hlt, hw, drop_nth hlt, hx, n1, hx2, drop_nth hx2, h2]
    rfl
  · rintro S hc f0
    simp [f0, hc]

def c_one02 : MFunc := ⟨9, [.tmp 2], .seq (.region [⟨some 2, .mv (.c (.one (.t (.int .i64 0)))), none⟩]) (.seq (.seq (.region [⟨some 3, .mv (.tmp 0), none⟩, ⟨some 4, .len (.tmp 3), none⟩, ⟨some 5, .bin .gtr (.tmp 4) (.c (.one (.t (.int .i64 80)))), none⟩]) (.cond (.tmp 5) (.seq (.region [⟨some 2, .mv (.c (.one (.t (.int .i64 3)))), none⟩]) .ret) .skip)) (.seq (.seq (.region [⟨some 6, .mv (.tmp 0), none⟩, ⟨some 7, .call (.c (.one (.fn 139 []))) 193 [.tmp 6], none⟩, ⟨some 8, .not (.tmp 7), none⟩]) (.cond (.tmp 8) (.seq (.region [⟨some 2, .mv (.c (.one (.t (.int .i64 1)))), none⟩]) .ret) .skip)) (.seq (.region [⟨some 2, .mv (.c (.one (.t (.int .i64 0)))), none⟩]) .ret)))⟩
theorem k_one02 : cFn Try.prog Try.f132 = some c_one02 := by kernel_rfl
theorem one02_ok (p : List Int) (hp : Flat p) (hl : p.length ≤ 80) : CallOK Try.prog 132 [(false, [ints p])] (.sv (false, [.int .i64 0])) := by
  refine callOK_W (callS_W (by kernel_rfl) Try.func132 k_one02 (callable_of Try.func132 (by kernel_rfl)) (by simp [c_one02]) ?_)
  have n1 : ¬ (80 : Int) < p.length := by omega
  have n2 : ¬ 80 < p.length := by omega
  simp [c_one02, n1, n2]
  refine callS_tree (valid02_ok p hp hl) ?_ ?_ ?_
  · rfl
  · rfl
  simp

def c_quot02 : MFunc := ⟨44, [.tmp 2, .tmp 3, .tmp 4], .seq (.region [⟨some 2, .mv (.c (.one .nil)), none⟩, ⟨some 3, .mv (.c (.one (.t (.int .i64 0)))), none⟩, ⟨some 4, .mv (.c (.one (.t (.int .i64 0)))), none⟩]) (.seq (.seq (.region [⟨some 9, .mv (.tmp 0), none⟩, ⟨some 10, .call (.c (.one (.fn 132 []))) 65 [.tmp 9], none⟩, ⟨some 5, .mv (.tmp 10), none⟩]) (.seq (.region [⟨some 11, .mv (.tmp 5), none⟩, ⟨some 12, .bin .neq (.tmp 11) (.c (.one (.t (.int .i64 0)))), none⟩]) (.cond (.tmp 12) (.seq (.region [⟨some 13, .mv (.tmp 5), none⟩, ⟨some 2, .mv (.c (.one .nil)), none⟩, ⟨some 3, .mv (.c (.one (.t (.int .i64 0)))), none⟩, ⟨some 4, .mv (.tmp 13), none⟩]) .ret) .skip))) (.seq (.region [⟨some 6, .mv (.c (.one .nil)), none⟩]) (.seq (.region [⟨some 7, .mv (.c (.one (.t (.int .i64 0)))), none⟩]) (.seq (.seq (.region [⟨some 8, .mv (.c (.one (.t (.int .i64 0)))), none⟩]) (.block 0 (.loop (.seq (.seq (.region [⟨some 14, .mv (.tmp 8), none⟩, ⟨some 15, .mv (.tmp 0), none⟩, ⟨some 16, .len (.tmp 15), none⟩, ⟨some 17, .bin .lss (.tmp 14) (.tmp 16), none⟩]) (.cond (.tmp 17) .skip (.exit 0))) (.seq (.block 1 (.seq (.region [⟨some 20, .mv (.tmp 0), none⟩, ⟨some 21, .mv (.tmp 8), none⟩, ⟨some 22, .idxA 1 (.tmp 20) (.tmp 21), none⟩, ⟨some 23, .load false 1 (.tmp 22), none⟩, ⟨some 24, .mv (.tmp 8), none⟩, ⟨some 25, .bin .eql (.tmp 23) (.tmp 24), none⟩]) (.cond (.tmp 25) (.seq (.region [⟨some 26, .mv (.tmp 6), none⟩, ⟨some 27, .mv (.tmp 7), none⟩, ⟨some 28, .mkrow 642 3 1 1 [.t (.int .i64 0)] [(0, (1, .tmp 27))], none⟩, ⟨some 29, .append 643 3 1 8 (.tmp 26) (.tmp 28), none⟩, ⟨some 6, .mv (.tmp 29), none⟩]) (.region [⟨some 30, .mv (.tmp 7), none⟩, ⟨some 31, .bin .add (.tmp 30) (.c (.one (.t (.int .i64 1)))), none⟩, ⟨some 7, .mv (.tmp 31), none⟩])) (.region [⟨some 32, .mv (.tmp 6), none⟩, ⟨some 33, .mv (.tmp 6), none⟩, ⟨some 34, .mv (.tmp 0), none⟩, ⟨some 35, .mv (.tmp 8), none⟩, ⟨some 36, .idxA 1 (.tmp 34) (.tmp 35), none⟩, ⟨some 37, .load false 1 (.tmp 36), none⟩, ⟨some 38, .idxA 1 (.tmp 33) (.tmp 37), none⟩, ⟨some 39, .load false 1 (.tmp 38), none⟩, ⟨some 40, .mkrow 776 3 1 1 [.t (.int .i64 0)] [(0, (1, .tmp 39))], none⟩, ⟨some 41, .append 777 3 1 8 (.tmp 32) (.tmp 40), none⟩, ⟨some 6, .mv (.tmp 41), none⟩])))) (.region [⟨some 18, .mv (.tmp 8), none⟩, ⟨some 19, .bin .add (.tmp 18) (.c (.one (.t (.int .i64 1)))), none⟩, ⟨some 8, .mv (.tmp 19), none⟩])))))) (.seq (.region [⟨some 42, .mv (.tmp 6), none⟩, ⟨some 43, .mv (.tmp 7), none⟩, ⟨some 2, .mv (.tmp 42), none⟩, ⟨some 3, .mv (.tmp 43), none⟩, ⟨some 4, .mv (.c (.one (.t (.int .i64 0)))), none⟩]) .ret)))))⟩
theorem k_quot02 : cFn Try.prog Try.f112 = some c_quot02 := by kernel_rfl
theorem quot02_ok (p : List Int) (hp : Flat p) (hl : p.length ≤ 80) : CallOK Try.prog 112 [(false, [ints p])] (.tup [(false, [ints (quotL p)]), (false, [.int .i64 (clsN p p.length)]), (false, [.int .i64 0])]) := by
  refine callOK_W (callS_W (by kernel_rfl) Try.func112 k_quot02 (callable_of Try.func112 (by kernel_rfl)) (by simp [c_quot02]) ?_)
  simp [c_quot02]
  refine callS_tree (one02_ok p hp hl) ?_ ?_ ?_
  · rfl
  · rfl
  simp
  refine loopW_count 8 p.length (fun k S => S.fr 0 = .one (.t (ints p)) ∧ S.fr 7 = .one (.t (.int .i64 (clsN p k))) ∧ outL [643, 777] 3 1 (quotK p k).length ((quotK p k).map (.int .i64)) S.ob (S.fr 6)) (by omega) ?_ ?_ ?_
  · simp [clsN, quotK, outL_nil]
  · rintro k S hlt hw hc ⟨f0, f7, ho⟩
    obtain ⟨x, hx, hle⟩ := hp.fo.at hlt
    have z := quotK_len (p := p) (k := k) (by omega)
    have zs := quotK_succ hlt
    rw [hx, Int.toNat_natCast] at zs
    by_cases e : x = k
    · subst e
      have c1 : clsN p (x + 1) = clsN p x + 1 := by simp only [clsN, if_pos hx]
      have cl := clsN_le (p := p) x
      have w1 : IntKind.i64.wrap ((clsN p x : Int) + 1) = ((clsN p x + 1 : Nat) : Int) := by rw [wrap64_id] <;> omega
      simp [f0, f7, hc, hlt, hw, drop_nth hlt, hx]
      refine kApp_growL (nms := [643, 777]) (ts := [.int .i64 (clsN p x)]) (by simp) (by simp) (ho.keep fun nm hm g => by simp at hm; rcases hm with rfl | rfl <;> simp) rfl (by omega) (by omega) fun E hE hob hcnt => ?_
      simp [f0, f7, hc, hw, w1, c1, zs]
      simpa using hE
    · have e' : ¬ (x : Int) = k := by omega
      have c1 : clsN p (k + 1) = clsN p k := by simp only [clsN, hx, if_neg e']
      have hxk : x < k := by omega
      have hfx := hp.fx k hlt
      rw [hx, Int.toNat_natCast] at hfx
      have hq : nth (quotK p k) x = (clsN p x : Nat) := by rw [quotK_nth hxk (by omega), hfx, Int.toNat_natCast]
      have hxq : x < (quotK p k).length := by omega
      have hxq1 : x + 1 ≤ (quotK p k).length := hxq
      have ho0 := ho
      rcases ho with ⟨a1, _, a3⟩ | ⟨a1, nm, hnm, ga, a3, a4⟩
      · omega
      · simp at hnm
        rcases hnm with rfl | rfl
        all_goals
          simp [f0, f7, a3, a4, hc, hlt, hw, drop_nth hlt, hx, e', e, hxq, hxq1, drop_nthR hxq, hq]
          refine kApp_growL (nms := [643, 777]) (ts := [.int .i64 (clsN p x)]) (by simp) (by simp) (by rw [← a3]; exact ho0.keep fun nm hm g => by simp at hm; rcases hm with rfl | rfl <;> simp) rfl (by omega) (by omega) fun E hE hob hcnt => ?_
          simp [f0, f7, hc, hw, c1, zs]
          simpa using hE
  · rintro S hc ⟨f0, f7, ho⟩
    rw [quotK_all] at ho
    obtain ⟨u, hu⟩ := ho.one
    have et : ∀ fr cnt, treeCell ⟨fr, S.ob, cnt⟩ u = some (ints (quotL p)) := fun fr cnt => by
      rw [hu] at ho
      rcases ho with ⟨a1, _, a3⟩ | ⟨a1, nm, hnm, ga, a3, a4⟩
      · cases a3
        have : quotL p = [] := List.eq_nil_of_length_eq_zero a1
        rw [this]
        rfl
      · cases a3
        exact treeCell_row a4
    simp [f0, f7, hc, hu, -treeCell, treeCell_t, et]

theorem idL_succ {n : Nat} : idL (n + 1) = idL n ++ [(n : Int)] := by simp [idL, List.range_succ]

def c_finest02 : MFunc := ⟨15, [.tmp 2], .seq (.region [⟨some 2, .mv (.c (.one .nil)), none⟩]) (.seq (.region [⟨some 3, .mv (.c (.one .nil)), none⟩]) (.seq (.seq (.region [⟨some 4, .mv (.c (.one (.t (.int .i64 0)))), none⟩]) (.block 0 (.loop (.seq (.seq (.region [⟨some 5, .mv (.tmp 4), none⟩, ⟨some 6, .mv (.tmp 0), none⟩, ⟨some 7, .bin .lss (.tmp 5) (.tmp 6), none⟩]) (.cond (.tmp 7) .skip (.exit 0))) (.seq (.block 1 (.region [⟨some 10, .mv (.tmp 3), none⟩, ⟨some 11, .mv (.tmp 4), none⟩, ⟨some 12, .mkrow 322 3 1 1 [.t (.int .i64 0)] [(0, (1, .tmp 11))], none⟩, ⟨some 13, .append 323 3 1 8 (.tmp 10) (.tmp 12), none⟩, ⟨some 3, .mv (.tmp 13), none⟩])) (.region [⟨some 8, .mv (.tmp 4), none⟩, ⟨some 9, .bin .add (.tmp 8) (.c (.one (.t (.int .i64 1)))), none⟩, ⟨some 4, .mv (.tmp 9), none⟩])))))) (.seq (.region [⟨some 14, .mv (.tmp 3), none⟩, ⟨some 2, .mv (.tmp 14), none⟩]) .ret)))⟩
theorem k_finest02 : cFn Try.prog Try.f109 = some c_finest02 := by kernel_rfl
theorem finest02_row (n : Nat) (hn : tiny n) : RowI Try.prog 109 [(false, [.int .i64 n])] 3 (idL n) := by
  refine callRow_W (plain_ints _) (by simp) (by omega) (callS_W (by kernel_rfl) Try.func109 k_finest02 (callable_of Try.func109 (by kernel_rfl)) (by simp [c_finest02]) ?_)
  simp [c_finest02]
  refine loopW_count 4 n (fun k S => S.fr 0 = .one (.t (.int .i64 n)) ∧ outR 323 3 1 (idL k).length ((idL k).map (.int .i64)) S.ob (S.fr 3)) hn.small ?_ ?_ ?_
  · simp [idL, outR_nil]
  · rintro k S hlt hw hc ⟨f0, ho⟩
    have z := idL_len (n := k)
    simp only [tiny] at hn
    simp [f0, hc, hlt]
    refine kApp_grow (ts := [.int .i64 k]) (by simp) (ho.keep fun g => by simp) (by omega) rfl (by omega) (by omega) fun E hE hob hcnt => ?_
    simp [f0, hc, hw, idL_succ]
    simpa using hE
  · rintro S hc ⟨f0, ho⟩
    obtain ⟨u, hu⟩ := ho.one
    rw [hu] at ho
    simp [f0, hc, hu]
    exact ho.rowIs

def mergeK (p : List Int) (a b k : Nat) : List Int := (p.take k).map fun x => if x = max (nth p a) (nth p b) then min (nth p a) (nth p b) else x
theorem mergeK_succ {p : List Int} {a b k : Nat} (h : k < p.length) : mergeK p a b (k + 1) = mergeK p a b k ++ [if nth p k = max (nth p a) (nth p b) then min (nth p a) (nth p b) else nth p k] := by
  rw [mergeK, take_succ_nth' h]
  simp [mergeK]
theorem mergeK_all {p : List Int} {a b : Nat} : mergeK p a b p.length = mergeL p a b := by simp [mergeK, mergeL]
theorem mergeK_len {p : List Int} {a b k : Nat} : (mergeK p a b k).length ≤ p.length := by simp [mergeK]; omega

def c_merge02 : MFunc := ⟨49, [.tmp 6], .seq (.region [⟨some 6, .mv (.c (.one .nil)), none⟩]) (.seq (.draw [[], [], [0, 1], [2], [], [], [4, 5], [6], [3, 7], [], [], [9, 10], [11], [], [], [13, 14], [15], [12, 16], [8, 0, 1, 2, 3, 4, 5, 6, 7, 8], [17, 18, 0, 1, 2, 3, 4, 5, 6, 7, 8, 9, 10, 11, 12, 13, 14, 15, 16, 17, 18]] [⟨some 12, .mv (.tmp 0), none⟩, ⟨some 13, .mv (.tmp 1), none⟩, ⟨some 14, .idxA 1 (.tmp 12) (.tmp 13), none⟩, ⟨some 15, .load false 1 (.tmp 14), none⟩, ⟨some 16, .mv (.tmp 0), none⟩, ⟨some 17, .mv (.tmp 2), none⟩, ⟨some 18, .idxA 1 (.tmp 16) (.tmp 17), none⟩, ⟨some 19, .load false 1 (.tmp 18), none⟩, ⟨some 20, .minmax false (.tmp 15) (.tmp 19), none⟩, ⟨some 21, .mv (.tmp 0), none⟩, ⟨some 22, .mv (.tmp 1), none⟩, ⟨some 23, .idxA 1 (.tmp 21) (.tmp 22), none⟩, ⟨some 24, .load false 1 (.tmp 23), none⟩, ⟨some 25, .mv (.tmp 0), none⟩, ⟨some 26, .mv (.tmp 2), none⟩, ⟨some 27, .idxA 1 (.tmp 25) (.tmp 26), none⟩, ⟨some 28, .load false 1 (.tmp 27), none⟩, ⟨some 29, .minmax true (.tmp 24) (.tmp 28), none⟩, ⟨some 7, .mv (.tmp 20), none⟩, ⟨some 8, .mv (.tmp 29), none⟩]) (.seq (.region [⟨some 9, .mv (.c (.one .nil)), none⟩]) (.seq (.seq (.region [⟨some 10, .mv (.c (.one (.t (.int .i64 0)))), none⟩]) (.block 0 (.loop (.seq (.seq (.region [⟨some 30, .mv (.tmp 10), none⟩, ⟨some 31, .mv (.tmp 0), none⟩, ⟨some 32, .len (.tmp 31), none⟩, ⟨some 33, .bin .lss (.tmp 30) (.tmp 32), none⟩]) (.cond (.tmp 33) .skip (.exit 0))) (.seq (.block 1 (.seq (.region [⟨some 36, .mv (.tmp 0), none⟩, ⟨some 37, .mv (.tmp 10), none⟩, ⟨some 38, .idxA 1 (.tmp 36) (.tmp 37), none⟩, ⟨some 39, .load false 1 (.tmp 38), none⟩, ⟨some 11, .mv (.tmp 39), none⟩]) (.seq (.seq (.region [⟨some 40, .mv (.tmp 11), none⟩, ⟨some 41, .mv (.tmp 8), none⟩, ⟨some 42, .bin .eql (.tmp 40) (.tmp 41), none⟩]) (.cond (.tmp 42) (.region [⟨some 43, .mv (.tmp 7), none⟩, ⟨some 11, .mv (.tmp 43), none⟩]) .skip)) (.region [⟨some 44, .mv (.tmp 9), none⟩, ⟨some 45, .mv (.tmp 11), none⟩, ⟨some 46, .mkrow 578 3 1 1 [.t (.int .i64 0)] [(0, (1, .tmp 45))], none⟩, ⟨some 47, .append 579 3 1 8 (.tmp 44) (.tmp 46), none⟩, ⟨some 9, .mv (.tmp 47), none⟩])))) (.region [⟨some 34, .mv (.tmp 10), none⟩, ⟨some 35, .bin .add (.tmp 34) (.c (.one (.t (.int .i64 1)))), none⟩, ⟨some 10, .mv (.tmp 35), none⟩])))))) (.seq (.region [⟨some 48, .mv (.tmp 9), none⟩, ⟨some 6, .mv (.tmp 48), none⟩]) .ret))))⟩
theorem k_merge02 : cFn Try.prog Try.f111 = some c_merge02 := by kernel_rfl
theorem merge02_row (p : List Int) (a b : Nat) (ha : a < p.length) (hb : b < p.length) (hl : tiny p.length) : RowI Try.prog 111 [(false, [ints p]), (false, [.int .i64 a]), (false, [.int .i64 b])] 3 (mergeL p a b) := by
  refine callRow_W (plain_ints _) (by simp) (by omega) (callS_W (by kernel_rfl) Try.func111 k_merge02 (callable_of Try.func111 (by kernel_rfl)) (by simp [c_merge02]) ?_)
  simp [c_merge02, dw0, dw1, dw2, dw3, ha, hb, drop_nth ha, drop_nth hb]
  refine ⟨rfl, ?_⟩
  refine loopW_count 10 p.length (fun k S => S.fr 0 = .one (.t (ints p)) ∧ S.fr 7 = .one (.t (.int .i64 (min (nth p a) (nth p b)))) ∧ S.fr 8 = .one (.t (.int .i64 (max (nth p a) (nth p b)))) ∧ outR 579 3 1 (mergeK p a b k).length ((mergeK p a b k).map (.int .i64)) S.ob (S.fr 9)) hl.small ?_ ?_ ?_
  · simp [mergeK, outR_nil]
  · rintro k S hlt hw hc ⟨f0, f7, f8, ho⟩
    have z := mergeK_len (p := p) (a := a) (b := b) (k := k)
    have zs := mergeK_succ (a := a) (b := b) hlt
    simp only [tiny] at hl
    by_cases e : nth p k = max (nth p a) (nth p b)
    · rw [if_pos e] at zs
      simp [f0, f7, f8, hc, hlt, drop_nth hlt, e]
      refine kApp_grow (ts := [.int .i64 (min (nth p a) (nth p b))]) (by simp) (ho.keep fun g => by simp) (by omega) rfl (by omega) (by omega) fun E hE hob hcnt => ?_
      simp [f0, f7, f8, hc, hw, zs]
      simpa using hE
    · rw [if_neg e] at zs
      simp [f0, f7, f8, hc, hlt, drop_nth hlt, e]
      refine kApp_grow (ts := [.int .i64 (nth p k)]) (by simp) (ho.keep fun g => by simp) (by omega) rfl (by omega) (by omega) fun E hE hob hcnt => ?_
      simp [f0, f7, f8, hc, hw, zs]
      simpa using hE
  · rintro S hc ⟨f0, f7, f8, ho⟩
    obtain ⟨u, hu⟩ := ho.one
    rw [hu, mergeK_all] at ho
    simp [f0, f7, f8, hc, hu]
    exact ho.rowIs
end Go.Proofs.Ythapbbpdcjmmfaa

/- Contracts: the disjoint union of graphs; the pairs that a span identifies. -/
namespace Go.Proofs.Ythapbbpdcjmmfaa
open Abs
set_option linter.unusedSimpArgs false
set_option linter.unusedVariables false
attribute [local simp] rn0 rn1 rn2 rn3 rn4 rn5 rn6 rn7 evOp nests Arg.ev St.val St.set St.new sliceOf binInt2 binInt AV.cells rdAt St.live retOf resOf resAll treeOf treeCell treeCells treeTups untree frameOf TV.av TR.av ints edgs prs fillV splice intsOf trees V1.tree bx Gr.v Pa.v opRd opWr opNew opNewR opArgs argsRd argRd Arg.rd AV.refs V1.refs refsL dstL

def shiftE (n : Nat) (e : Ed) : Ed := ⟨e.t, e.f + n, e.g + n⟩
/-- The disjoint union. -/
def unG (a b : Gr) : Gr := ⟨a.nodes ++ b.nodes, a.edges ++ b.edges.map (shiftE a.nodes.length)⟩
def unBig (a b : Gr) : Prop := 40 < a.nodes.length + b.nodes.length ∨ 80 < a.edges.length + b.edges.length
instance (a b : Gr) : Decidable (unBig a b) := inferInstanceAs (Decidable (_ ∨ _))
def unErr (a b : Gr) : Int := if gErr a = 0 then if gErr b = 0 then if unBig a b then 3 else 0 else gErr b else gErr a
def unL (a : Gr) : Pa := ⟨numL 0 a.nodes.length, numL 0 a.edges.length⟩
def unR (a b : Gr) : Pa := ⟨numL a.nodes.length b.nodes.length, numL a.edges.length b.edges.length⟩
def unT (a b : Gr) : TR := if unErr a b = 0 then .tup [(unG a b).v, (unL a).v, (unR a b).v, (false, [.int .i64 0])] else .tup [Gr.v ⟨[], []⟩, Pa.v ⟨[], []⟩, Pa.v ⟨[], []⟩, (false, [.int .i64 (unErr a b)])]

def unE (a b : Gr) (k : Nat) : List Ed := a.edges ++ (b.edges.take k).map (shiftE a.nodes.length)
theorem unE_zero {a b : Gr} : unE a b 0 = a.edges := by simp [unE]
theorem unE_succ {a b : Gr} {k : Nat} (h : k < b.edges.length) : unE a b (k + 1) = unE a b k ++ [shiftE a.nodes.length (eth b.edges k)] := by
  rw [unE, List.take_succ_eq_append_getElem h, eth_eq h, List.map_append, ← List.append_assoc]
  rfl
theorem unE_all {a b : Gr} : unE a b b.edges.length = (unG a b).edges := by simp [unE, unG]
theorem unE_len {a b : Gr} {k : Nat} : (unE a b k).length ≤ a.edges.length + b.edges.length := by simp [unE]; omega

def c_gunion : MFunc := ⟨111, [.cell 4 true 2, .cell 5 true 2, .cell 6 true 2, .tmp 7], .seq (.region [⟨some 2, .box 0 25 (.tmp 0), none⟩, ⟨some 3, .box 1 25 (.tmp 1), none⟩, ⟨some 4, .alloc 2 25 [.nil, .nil], none⟩, ⟨some 5, .alloc 3 28 [.nil, .nil], none⟩, ⟨some 6, .alloc 4 28 [.nil, .nil], none⟩, ⟨some 7, .mv (.c (.one (.t (.int .i64 0)))), none⟩]) (.seq (.seq (.region [⟨some 18, .load true 2 (.tmp 2), none⟩, ⟨some 19, .load true 2 (.tmp 3), none⟩, ⟨some 20, .mkrow 66 25 2 2 [.nil, .nil, .nil, .nil] [(0, (2, .tmp 18)), (2, (2, .tmp 19))], none⟩, ⟨some 21, .len (.tmp 20), none⟩, ⟨some 22, .mv (.c (.one (.t (.int .i64 0)))), none⟩]) (.block 0 (.loop (.seq (.region [⟨some 23, .bin .lss (.tmp 22) (.tmp 21), none⟩]) (.seq (.cond (.tmp 23) .skip (.exit 0)) (.seq (.block 1 (.seq (.region [⟨some 24, .idxA 2 (.tmp 20) (.tmp 22), none⟩, ⟨some 25, .load true 2 (.tmp 24), none⟩, ⟨some 9, .alloc 194 25 [.nil, .nil], none⟩, ⟨none, .store 2 (.tmp 9) (.tmp 25), none⟩]) (.seq (.region [⟨some 26, .load true 2 (.tmp 9), none⟩, ⟨some 27, .call (.c (.one (.fn 85 []))) 257 [.tmp 26], none⟩, ⟨some 10, .mv (.tmp 27), none⟩]) (.seq (.region [⟨some 28, .mv (.tmp 10), none⟩, ⟨some 29, .bin .neq (.tmp 28) (.c (.one (.t (.int .i64 0)))), none⟩]) (.cond (.tmp 29) (.seq (.region [⟨some 30, .build [.nil, .nil] [], none⟩, ⟨some 31, .build [.nil, .nil] [], none⟩, ⟨some 32, .build [.nil, .nil] [], none⟩, ⟨some 33, .mv (.tmp 10), none⟩, ⟨none, .store 2 (.tmp 4) (.tmp 30), none⟩, ⟨none, .store 2 (.tmp 5) (.tmp 31), none⟩, ⟨none, .store 2 (.tmp 6) (.tmp 32), none⟩, ⟨some 7, .mv (.tmp 33), none⟩]) .ret) .skip))))) (.region [⟨some 34, .bin .add (.tmp 22) (.c (.one (.t (.int .i64 1)))), none⟩, ⟨some 22, .mv (.tmp 34), none⟩]))))))) (.seq (.draw [[], [0], [1], [], [3], [4], [2, 0, 1, 2], [5, 6, 0, 1, 2, 3, 4, 5, 6]] [⟨some 35, .fieldA 0 (.tmp 2), none⟩, ⟨some 36, .load false 1 (.tmp 35), none⟩, ⟨some 37, .len (.tmp 36), none⟩, ⟨some 38, .fieldA 1 (.tmp 2), none⟩, ⟨some 39, .load false 1 (.tmp 38), none⟩, ⟨some 40, .len (.tmp 39), none⟩, ⟨some 11, .mv (.tmp 37), none⟩, ⟨some 12, .mv (.tmp 40), none⟩]) (.seq (.seq (.region [⟨some 41, .mv (.tmp 11), none⟩, ⟨some 42, .fieldA 0 (.tmp 3), none⟩, ⟨some 43, .load false 1 (.tmp 42), none⟩, ⟨some 44, .len (.tmp 43), none⟩, ⟨some 45, .bin .add (.tmp 41) (.tmp 44), none⟩, ⟨some 46, .bin .gtr (.tmp 45) (.c (.one (.t (.int .i64 40)))), none⟩, ⟨some 47, .mv (.tmp 46), none⟩, ⟨some 48, .mv (.tmp 12), some (47, false)⟩, ⟨some 49, .fieldA 1 (.tmp 3), some (47, false)⟩, ⟨some 50, .load false 1 (.tmp 49), some (47, false)⟩, ⟨some 51, .len (.tmp 50), some (47, false)⟩, ⟨some 52, .bin .add (.tmp 48) (.tmp 51), some (47, false)⟩, ⟨some 53, .bin .gtr (.tmp 52) (.c (.one (.t (.int .i64 80)))), some (47, false)⟩, ⟨some 54, .pick (.tmp 47) (.c (.one (.t (.bool true)))) (.tmp 53), none⟩]) (.cond (.tmp 54) (.seq (.region [⟨some 55, .build [.nil, .nil] [], none⟩, ⟨some 56, .build [.nil, .nil] [], none⟩, ⟨some 57, .build [.nil, .nil] [], none⟩, ⟨none, .store 2 (.tmp 4) (.tmp 55), none⟩, ⟨none, .store 2 (.tmp 5) (.tmp 56), none⟩, ⟨none, .store 2 (.tmp 6) (.tmp 57), none⟩, ⟨some 7, .mv (.c (.one (.t (.int .i64 3)))), none⟩]) .ret) .skip)) (.seq (.draw [[], [0], [], [2], [1, 3], [4], [], [6], [7, 5], [5, 8], [], [10, 9, 8, 0, 1, 2, 3, 4, 5, 6, 7, 8, 9, 10]] [⟨some 58, .fieldA 0 (.tmp 2), none⟩, ⟨some 59, .load false 1 (.tmp 58), none⟩, ⟨some 60, .fieldA 0 (.tmp 3), none⟩, ⟨some 61, .load false 1 (.tmp 60), none⟩, ⟨some 62, .mkrow 708 22 1 2 [.nil, .nil] [(0, (1, .tmp 59)), (1, (1, .tmp 61))], none⟩, ⟨some 63, .call (.c (.one (.fn 59 []))) 709 [.tmp 62], none⟩, ⟨some 64, .fieldA 1 (.tmp 2), none⟩, ⟨some 65, .load false 1 (.tmp 64), none⟩, ⟨some 66, .call (.c (.one (.fn 122 []))) 712 [.tmp 65], none⟩, ⟨some 67, .build [.nil, .nil] [(0, (1, .tmp 63)), (1, (1, .tmp 66))], none⟩, ⟨some 13, .alloc 714 25 [.nil, .nil], none⟩, ⟨none, .store 2 (.tmp 13) (.tmp 67), none⟩]) (.seq (.seq (.region [⟨some 68, .fieldA 1 (.tmp 3), none⟩, ⟨some 69, .load false 1 (.tmp 68), none⟩, ⟨some 70, .len (.tmp 69), none⟩, ⟨some 71, .mv (.c (.one (.t (.int .i64 0)))), none⟩]) (.block 2 (.loop (.seq (.region [⟨some 72, .bin .lss (.tmp 71) (.tmp 70), none⟩]) (.seq (.cond (.tmp 72) .skip (.exit 2)) (.seq (.block 3 (.seq (.region [⟨some 73, .idxA 3 (.tmp 69) (.tmp 71), none⟩, ⟨some 74, .load true 3 (.tmp 73), none⟩, ⟨some 15, .alloc 898 73 [.t (.int .i64 0), .t (.int .i64 0), .t (.int .i64 0)], none⟩, ⟨none, .store 3 (.tmp 15) (.tmp 74), none⟩]) (.region [⟨some 75, .fieldA 1 (.tmp 13), none⟩, ⟨some 76, .load false 1 (.tmp 75), none⟩, ⟨some 77, .fieldA 0 (.tmp 15), none⟩, ⟨some 78, .load false 1 (.tmp 77), none⟩, ⟨some 79, .fieldA 1 (.tmp 15), none⟩, ⟨some 80, .load false 1 (.tmp 79), none⟩, ⟨some 81, .mv (.tmp 11), none⟩, ⟨some 82, .bin .add (.tmp 80) (.tmp 81), none⟩, ⟨some 83, .fieldA 2 (.tmp 15), none⟩, ⟨some 84, .load false 1 (.tmp 83), none⟩, ⟨some 85, .mv (.tmp 11), none⟩, ⟨some 86, .bin .add (.tmp 84) (.tmp 85), none⟩, ⟨some 87, .build [.t (.int .i64 0), .t (.int .i64 0), .t (.int .i64 0)] [(0, (1, .tmp 78)), (1, (1, .tmp 82)), (2, (1, .tmp 86))], none⟩, ⟨some 88, .mkrow 973 73 3 1 [.t (.int .i64 0), .t (.int .i64 0), .t (.int .i64 0)] [(0, (3, .tmp 87))], none⟩, ⟨some 89, .append 974 73 3 24 (.tmp 76) (.tmp 88), none⟩, ⟨some 90, .fieldA 1 (.tmp 13), none⟩, ⟨none, .store 1 (.tmp 90) (.tmp 89), none⟩]))) (.region [⟨some 91, .bin .add (.tmp 71) (.c (.one (.t (.int .i64 1)))), none⟩, ⟨some 71, .mv (.tmp 91), none⟩]))))))) (.seq (.region [⟨some 92, .mv (.tmp 11), none⟩, ⟨some 93, .call (.c (.one (.fn 123 []))) 1089 [.c (.one (.t (.int .i64 0))), .tmp 92], none⟩, ⟨some 94, .mv (.tmp 12), none⟩, ⟨some 95, .call (.c (.one (.fn 123 []))) 1091 [.c (.one (.t (.int .i64 0))), .tmp 94], none⟩, ⟨some 96, .build [.nil, .nil] [(0, (1, .tmp 93)), (1, (1, .tmp 95))], none⟩, ⟨some 16, .alloc 1093 28 [.nil, .nil], none⟩, ⟨none, .store 2 (.tmp 16) (.tmp 96), none⟩]) (.seq (.draw [[], [], [1], [2], [0, 3], [], [], [6], [7], [5, 8, 4], [4, 9], [], [11, 10, 9, 0, 1, 2, 3, 4, 5, 6, 7, 8, 9, 10, 11]] [⟨some 97, .mv (.tmp 11), none⟩, ⟨some 98, .fieldA 0 (.tmp 3), none⟩, ⟨some 99, .load false 1 (.tmp 98), none⟩, ⟨some 100, .len (.tmp 99), none⟩, ⟨some 101, .call (.c (.one (.fn 123 []))) 1156 [.tmp 97, .tmp 100], none⟩, ⟨some 102, .mv (.tmp 12), none⟩, ⟨some 103, .fieldA 1 (.tmp 3), none⟩, ⟨some 104, .load false 1 (.tmp 103), none⟩, ⟨some 105, .len (.tmp 104), none⟩, ⟨some 106, .call (.c (.one (.fn 123 []))) 1161 [.tmp 102, .tmp 105], none⟩, ⟨some 107, .build [.nil, .nil] [(0, (1, .tmp 101)), (1, (1, .tmp 106))], none⟩, ⟨some 17, .alloc 1163 28 [.nil, .nil], none⟩, ⟨none, .store 2 (.tmp 17) (.tmp 107), none⟩]) (.seq (.draw [[], [], [], [0, 0], [1, 3, 0, 1, 3], [2, 4, 0, 1, 2, 3, 4], [5, 0, 1, 2, 3, 4, 5]] [⟨some 108, .load true 2 (.tmp 13), none⟩, ⟨some 109, .load true 2 (.tmp 16), none⟩, ⟨some 110, .load true 2 (.tmp 17), none⟩, ⟨none, .store 2 (.tmp 4) (.tmp 108), none⟩, ⟨none, .store 2 (.tmp 5) (.tmp 109), none⟩, ⟨none, .store 2 (.tmp 6) (.tmp 110), none⟩, ⟨some 7, .mv (.c (.one (.t (.int .i64 0)))), none⟩]) .ret))))))))⟩
theorem k_gunion : cFn Try.prog Try.f92 = some c_gunion := by kernel_rfl
set_option maxHeartbeats 4000000 in
theorem gunion_ok (a b : Gr) (ta : tinyG a) (tb : tinyG b) : CallOK Try.prog 92 [a.v, b.v] (unT a b) := by
  refine callOK_W (callS_W (by kernel_rfl) Try.func92 k_gunion (callable_of Try.func92 (by kernel_rfl)) (by simp [c_gunion]) ?_)
  simp [c_gunion]
  refine loopW_count 22 2 (fun k S => S.fr 2 = .one (.ptr (0, 0) 0) ∧ S.fr 3 = .one (.ptr (1, 0) 0) ∧ S.fr 4 = .one (.ptr (2, 0) 0) ∧ S.fr 5 = .one (.ptr (3, 0) 0) ∧ S.fr 6 = .one (.ptr (4, 0) 0) ∧ S.fr 20 = .one (.row (66, 0)) ∧ S.fr 21 = .one (.t (.int .i64 2)) ∧
    S.ob (0, 0) = some (bx 25 (a.v.2.map .t)) ∧ S.ob (1, 0) = some (bx 25 (b.v.2.map .t)) ∧ S.ob (2, 0) = some (bx 25 [.nil, .nil]) ∧ S.ob (3, 0) = some (bx 28 [.nil, .nil]) ∧ S.ob (4, 0) = some (bx 28 [.nil, .nil]) ∧
    S.ob (66, 0) = some ⟨true, true, true, 2, 2, 25, [.t (ints a.nodes), .t (edgs a.edges), .t (ints b.nodes), .t (edgs b.edges)]⟩ ∧ S.cnt 714 = 0 ∧ S.cnt 1093 = 0 ∧ S.cnt 1163 = 0 ∧ S.cnt 708 = 0 ∧ S.cnt 712 = 0 ∧ (0 < k → gErr a = 0) ∧ (1 < k → gErr b = 0)) (by omega) ?_ ?_ ?_
  · simp
  · rintro k S hlt hw hc ⟨f2, f3, f4, f5, f6, f20, f21, o0, o1, o2, o3, o4, o66, c1, c2, c3, c4, c5, g1, g2⟩
    have hk : k = 0 ∨ k = 1 := by omega
    rcases hk with rfl | rfl
    · simp at hc hw
      simp [f2, f3, f4, f5, f6, f20, f21, o0, o1, o2, o3, o4, o66, hc]
      refine callS_tree (gvalid_ok a ta.1.small ta.2.small) ?_ ?_ ?_
      · rfl
      · rfl
      by_cases h1 : gErr a = 0
      case neg =>
        have e : unErr a b = gErr a := by simp [unErr, h1]
        simp [f2, f3, f4, f5, f6, f20, f21, o0, o1, o2, o3, o4, o66, hc, h1, unT, e, edL]
      simp [f2, f3, f4, f5, f6, f20, f21, o0, o1, o2, o3, o4, o66, hc, h1, hw, c1, c2, c3, c4, c5]
    · have h1 := g1 (by omega)
      simp at hc hw
      simp [f2, f3, f4, f5, f6, f20, f21, o0, o1, o2, o3, o4, o66, hc]
      refine callS_tree (gvalid_ok b tb.1.small tb.2.small) ?_ ?_ ?_
      · rfl
      · rfl
      by_cases h2 : gErr b = 0
      case neg =>
        have e : unErr a b = gErr b := by simp [unErr, h1, h2]
        simp [f2, f3, f4, f5, f6, f20, f21, o0, o1, o2, o3, o4, o66, hc, h2, unT, e, edL]
      simp [f2, f3, f4, f5, f6, f20, f21, o0, o1, o2, o3, o4, o66, hc, h1, h2, hw, c1, c2, c3, c4, c5]
  · rintro S hc ⟨f2, f3, f4, f5, f6, f20, f21, o0, o1, o2, o3, o4, o66, c1, c2, c3, c4, c5, g1, g2⟩
    have h1 := g1 (by omega)
    have h2 := g2 (by omega)
    have ga := gErr_ok h1
    have gb := gErr_ok h2
    have b1 := ga.n
    have b2 := ga.e
    have b3 := gb.n
    have b4 := gb.e
    have w1 : IntKind.i64.wrap ((a.nodes.length : Int) + b.nodes.length) = (a.nodes.length : Int) + b.nodes.length := by rw [wrap64_id] <;> omega
    have w2 : IntKind.i64.wrap ((a.edges.length : Int) + b.edges.length) = (a.edges.length : Int) + b.edges.length := by rw [wrap64_id] <;> omega
    simp [dw0, dw1, dw2, dw3, f2, f3, f4, f5, f6, f20, f21, o0, o1, o2, o3, o4, o66, hc]
    refine ⟨rfl, ?_⟩
    by_cases hb : unBig a b
    case pos =>
      have e : unErr a b = 3 := by simp [unErr, h1, h2, hb]
      by_cases q1 : 40 < a.nodes.length + b.nodes.length
      · have q1' : (40 : Int) < (a.nodes.length : Int) + b.nodes.length := by omega
        simp [f2, f3, f4, f5, f6, o0, o1, o2, o3, o4, w1, q1', unT, e, edL]
      · have q2 : 80 < a.edges.length + b.edges.length := hb.resolve_left q1
        have q1' : ¬ (40 : Int) < (a.nodes.length : Int) + b.nodes.length := by omega
        have q2' : (80 : Int) < (a.edges.length : Int) + b.edges.length := by omega
        simp [f2, f3, f4, f5, f6, o0, o1, o2, o3, o4, w1, w2, q1', q2', unT, e, edL]
    have e : unErr a b = 0 := by simp [unErr, h1, h2, hb]
    have n1 : ¬ (40 : Int) < (a.nodes.length : Int) + b.nodes.length := by simp only [unBig] at hb; omega
    have n2 : ¬ (80 : Int) < (a.edges.length : Int) + b.edges.length := by simp only [unBig] at hb; omega
    simp [dw0, dw1, dw2, dw3, f2, f3, f4, f5, f6, o0, o1, o2, o3, o4, w1, w2, n1, n2, c4]
    refine dCall_row (concat_row a.nodes b.nodes (by omega) (by omega)) ?_ ?_
    · rfl
    generalize hLN : a.nodes ++ b.nodes = LN
    have hLN' : (unG a b).nodes = LN := hLN
    have hres : unT a b = .tup [(true, [ints LN, edgs (unG a b).edges]), (unL a).v, (unR a b).v, (false, [.int .i64 0])] := by rw [unT, if_pos e, ← hLN']; rfl
    rw [hres]
    by_cases hz0 : LN = [] <;> by_cases hz : a.edges = []
    all_goals
      simp [dw0, dw1, dw2, dw3, rowEff, hz0, f2, f3, f4, f5, f6, o0, o1, o2, o3, o4]
      refine dCall_row (cloneE_row a.edges ta.2) ?_ ?_
      · rfl
      simp [dw0, dw1, dw2, dw3, rowEff, hz0, hz, f2, f3, f4, f5, f6, o0, o1, o2, o3, o4, c1, c5]
      refine ⟨rfl, ?_⟩
      refine loopW_count 71 b.edges.length (fun k S => S.fr 2 = .one (.ptr (0, 0) 0) ∧ S.fr 3 = .one (.ptr (1, 0) 0) ∧ S.fr 4 = .one (.ptr (2, 0) 0) ∧ S.fr 5 = .one (.ptr (3, 0) 0) ∧ S.fr 6 = .one (.ptr (4, 0) 0) ∧ S.fr 11 = .one (.t (.int .i64 a.nodes.length)) ∧ S.fr 12 = .one (.t (.int .i64 a.edges.length)) ∧ S.fr 13 = .one (.ptr (714, 0) 0) ∧ S.fr 69 = .one (.t (edgs b.edges)) ∧ S.fr 70 = .one (.t (.int .i64 b.edges.length)) ∧
        S.ob (0, 0) = some (bx 25 (a.v.2.map .t)) ∧ S.ob (1, 0) = some (bx 25 (b.v.2.map .t)) ∧ S.ob (2, 0) = some (bx 25 [.nil, .nil]) ∧ S.ob (3, 0) = some (bx 28 [.nil, .nil]) ∧ S.ob (4, 0) = some (bx 28 [.nil, .nil]) ∧ S.cnt 1093 = 0 ∧ S.cnt 1163 = 0 ∧
        ∃ vN vE, S.ob (714, 0) = some (bx 25 [vN, vE]) ∧ outL [709] 3 1 LN.length (LN.map (.int .i64)) S.ob (.one vN) ∧ outL [712, 974] 73 3 (unE a b k).length (edL (unE a b k)) S.ob (.one vE)) (by omega) ?_ ?_ ?_
      · have q0 := unE_zero (a := a) (b := b)
        simp [c2, c3, f2, f3, f4, f5, f6, o0, o1, o2, o3, o4]
        first | refine ⟨_, _, ⟨rfl, rfl⟩, ?_, ?_⟩ | refine ⟨by simp [hz], _, _, ⟨rfl, rfl⟩, ?_, ?_⟩
        · first | exact .inl ⟨by simp [hz0], by simp [hz0], rfl⟩ | exact .inr ⟨List.length_pos_iff.2 hz0, 709, by simp, _, rfl, by simp⟩
        · rw [q0]
          first | exact .inl ⟨by simp [hz], by simp [hz, edL], rfl⟩ | exact .inr ⟨List.length_pos_iff.2 hz, 712, by simp, _, rfl, by simp [edL]⟩
      · rintro k S hlt hw hc ⟨f2, f3, f4, f5, f6, f11, f12, f13, f69, f70, o0, o1, o2, o3, o4, c2, c3, vN, vE, o714, hN, ho⟩
        have hlt3 : k * 3 < b.edges.length * 3 := by omega
        have hed := gb.edges _ (eth_mem hlt)
        have v1 : IntKind.i64.wrap ((eth b.edges k).f + a.nodes.length) = (eth b.edges k).f + a.nodes.length := by rw [wrap64_id] <;> omega
        have v2 : IntKind.i64.wrap ((eth b.edges k).g + a.nodes.length) = (eth b.edges k).g + a.nodes.length := by rw [wrap64_id] <;> omega
        have z := unE_len (a := a) (b := b) (k := k)
        have zs := unE_succ (a := a) hlt
        simp [f2, f3, f4, f5, f6, f11, f12, f13, f69, f70, o0, o1, o2, o3, o4, o714, hc, hlt, hlt3, drop_edL hlt, v1, v2]
        refine kApp_growL (nms := [712, 974]) (ts := edC (shiftE a.nodes.length (eth b.edges k))) (by simp) (by simp [edC, shiftE]) (ho.keep fun nm hm g => by simp at hm; rcases hm with rfl | rfl <;> simp) rfl (by omega) (by omega) fun E hE hob hcnt => ?_
        obtain ⟨u, hu⟩ := hE.one
        rw [hu] at hE
        have hN2 := hN.keep (ob' := E.ob) fun nm hm g => by
          simp at hm
          subst hm
          rw [hob _ _ (by decide)]
          simp
        simp [f2, f3, f4, f5, f6, f11, f12, f13, f69, f70, o0, o1, o2, o3, o4, o714, hc, hw, hob, hcnt, hu, c2, c3, zs]
        refine ⟨vN, u, ⟨rfl, rfl⟩, hN2.keep fun nm hm g => by simp at hm; subst hm; simp, outL.keep (by simpa [edL] using hE) fun nm hm g => by simp at hm; rcases hm with rfl | rfl <;> simp⟩
      · rintro S hc ⟨f2, f3, f4, f5, f6, f11, f12, f13, f69, f70, o0, o1, o2, o3, o4, c2, c3, vN, vE, o714, hN, ho⟩
        rw [unE_all] at ho
        simp [f2, f3, f4, f5, f6, f11, f12, f13, f69, f70, o0, o1, o2, o3, o4, o714, hc]
        refine callS_tree (gnumbers_row 0 a.nodes.length (by simp only [tiny]; omega) ta.1).ok ?_ ?_ ?_
        · rfl
        · rfl
        simp [f2, f3, f4, f5, f6, f11, f12, f13, o0, o1, o2, o3, o4, o714]
        refine callS_tree (gnumbers_row 0 a.edges.length (by simp only [tiny]; omega) ta.2).ok ?_ ?_ ?_
        · rfl
        · rfl
        simp [dw0, dw1, dw2, dw3, f2, f3, f4, f5, f6, f11, f12, f13, o0, o1, o2, o3, o4, o714, c2, c3]
        refine dCall_ok (gnumbers_row a.nodes.length b.nodes.length ta.1 tb.1).ok ?_ ?_ ?_
        · rfl
        · rfl
        simp [dw0, dw1, dw2, dw3, f2, f3, f4, f5, f6, f11, f12, f13, o0, o1, o2, o3, o4, o714, c2, c3]
        refine dCall_ok (gnumbers_row a.edges.length b.edges.length ta.2 tb.2).ok ?_ ?_ ?_
        · rfl
        · rfl
        simp [dw0, dw1, dw2, dw3, f2, f3, f4, f5, f6, f11, f12, f13, o0, o1, o2, o3, o4, o714, c2, c3]
        clear hres
        generalize (unG a b).edges = LE at ho ⊢
        rcases hN with ⟨n1, n2, n3⟩ | ⟨n1, nm, n2, gg, n3, n4⟩ <;> rcases ho with ⟨m1, m2, m3⟩ | ⟨m1, nm', m2, gg', m3, m4⟩
        · cases n3
          cases m3
          have q1 : LN = [] := List.eq_nil_of_length_eq_zero n1
          have q2 : LE = [] := List.eq_nil_of_length_eq_zero m1
          simp [dw0, dw1, dw2, dw3, f2, f3, f4, f5, f6, f11, f12, f13, o0, o1, o2, o3, o4, o714, c2, c3, q1, q2, edL, unL, unR]
          first | rfl | exact ⟨rfl, rfl⟩ | exact ⟨rfl, rfl, rfl⟩
        · cases n3
          cases m3
          have q1 : LN = [] := List.eq_nil_of_length_eq_zero n1
          simp at m2
          rcases m2 with rfl | rfl
          all_goals
            simp [dw0, dw1, dw2, dw3, f2, f3, f4, f5, f6, f11, f12, f13, o0, o1, o2, o3, o4, o714, c2, c3, q1, m4, untreeT, unL, unR]
            first | rfl | exact ⟨rfl, rfl⟩ | exact ⟨rfl, rfl, rfl⟩
        · cases n3
          cases m3
          have q2 : LE = [] := List.eq_nil_of_length_eq_zero m1
          simp at n2
          subst n2
          have hne : LN ≠ [] := fun h => by rw [h] at n1; simp at n1
          first
          | exact absurd hz0 hne
          | (simp [dw0, dw1, dw2, dw3, f2, f3, f4, f5, f6, f11, f12, f13, o0, o1, o2, o3, o4, o714, c2, c3, q2, n4, untreeT, untreeI, edL, unL, unR]
             first | rfl | exact ⟨rfl, rfl⟩ | exact ⟨rfl, rfl, rfl⟩)
        · cases n3
          cases m3
          simp at n2 m2
          subst n2
          have hne : LN ≠ [] := fun h => by rw [h] at n1; simp at n1
          first
          | exact absurd hz0 hne
          | (rcases m2 with rfl | rfl <;> (
               simp [dw0, dw1, dw2, dw3, f2, f3, f4, f5, f6, f11, f12, f13, o0, o1, o2, o3, o4, o714, c2, c3, n4, m4, untreeT, untreeI, unL, unR]
               first | rfl | exact ⟨rfl, rfl⟩ | exact ⟨rfl, rfl, rfl⟩))
end Go.Proofs.Ythapbbpdcjmmfaa

/- Contracts: the pairs of images under a span; quotients of graphs by pairs. -/
namespace Go.Proofs.Ythapbbpdcjmmfaa
open Abs
set_option linter.unusedSimpArgs false
set_option linter.unusedVariables false
attribute [local simp] rn0 rn1 rn2 rn3 rn4 rn5 rn6 rn7 evOp nests Arg.ev St.val St.set St.new sliceOf binInt2 binInt AV.cells rdAt St.live retOf resOf resAll treeOf treeCell treeCells treeTups untree frameOf TV.av TR.av ints edgs prs fillV splice intsOf trees V1.tree bx Gr.v Pa.v opRd opWr opNew opNewR opArgs argsRd argRd Arg.rd AV.refs V1.refs refsL dstL

/-- The pairs of places to which two lists lead. -/
def pgK (f g l r : List Int) (k : Nat) : List (Int × Int) := (List.range k).map fun i => (nth l (nth f i).toNat, nth r (nth g i).toNat)
theorem pgK_succ {f g l r : List Int} {k : Nat} : pgK f g l r (k + 1) = pgK f g l r k ++ [(nth l (nth f k).toNat, nth r (nth g k).toNat)] := by simp [pgK, List.range_succ]
theorem pgK_len {f g l r : List Int} {k : Nat} : (pgK f g l r k).length = k := by simp [pgK]

def c_ppairs : MFunc := ⟨36, [.tmp 8], .seq (.region [⟨some 8, .mv (.c (.one .nil)), none⟩]) (.seq (.region [⟨some 9, .mv (.c (.one .nil)), none⟩]) (.seq (.seq (.region [⟨some 11, .mv (.tmp 0), none⟩, ⟨some 12, .len (.tmp 11), none⟩, ⟨some 13, .mv (.c (.one (.t (.int .i64 0)))), none⟩]) (.block 0 (.loop (.seq (.region [⟨some 14, .bin .lss (.tmp 13) (.tmp 12), none⟩]) (.seq (.cond (.tmp 14) .skip (.exit 0)) (.seq (.block 1 (.seq (.region [⟨some 15, .mv (.tmp 13), none⟩, ⟨some 10, .mv (.tmp 15), none⟩]) (.draw [[], [], [], [], [2, 3], [4], [1, 5], [6], [], [], [], [9, 10], [11], [8, 12], [13], [7, 14], [15], [0, 16], [17, 17, 0, 1, 2, 3, 4, 5, 6, 7, 8, 9, 10, 11, 12, 13, 14, 15, 16, 17]] [⟨some 16, .mv (.tmp 9), none⟩, ⟨some 17, .mv (.tmp 2), none⟩, ⟨some 18, .mv (.tmp 0), none⟩, ⟨some 19, .mv (.tmp 10), none⟩, ⟨some 20, .idxA 1 (.tmp 18) (.tmp 19), none⟩, ⟨some 21, .load false 1 (.tmp 20), none⟩, ⟨some 22, .idxA 1 (.tmp 17) (.tmp 21), none⟩, ⟨some 23, .load false 1 (.tmp 22), none⟩, ⟨some 24, .mv (.tmp 3), none⟩, ⟨some 25, .mv (.tmp 1), none⟩, ⟨some 26, .mv (.tmp 10), none⟩, ⟨some 27, .idxA 1 (.tmp 25) (.tmp 26), none⟩, ⟨some 28, .load false 1 (.tmp 27), none⟩, ⟨some 29, .idxA 1 (.tmp 24) (.tmp 28), none⟩, ⟨some 30, .load false 1 (.tmp 29), none⟩, ⟨some 31, .build [.t (.int .i64 0), .t (.int .i64 0)] [(0, (1, .tmp 23)), (1, (1, .tmp 30))], none⟩, ⟨some 32, .mkrow 336 57 2 1 [.t (.int .i64 0), .t (.int .i64 0)] [(0, (2, .tmp 31))], none⟩, ⟨some 33, .append 337 57 2 16 (.tmp 16) (.tmp 32), none⟩, ⟨some 9, .mv (.tmp 33), none⟩]))) (.region [⟨some 34, .bin .add (.tmp 13) (.c (.one (.t (.int .i64 1)))), none⟩, ⟨some 13, .mv (.tmp 34), none⟩]))))))) (.seq (.region [⟨some 35, .mv (.tmp 9), none⟩, ⟨some 8, .mv (.tmp 35), none⟩]) .ret)))⟩
theorem k_ppairs : cFn Try.prog Try.f94 = some c_ppairs := by kernel_rfl
theorem ppairs_row (f g l r : List Int) (hf : f.length ≤ 1000) (hg : f.length ≤ g.length) (h1 : placesIn f l.length) (h2 : placesIn g r.length) : CallRow Try.prog 94 [(false, [ints f]), (false, [ints g]), (false, [ints l]), (false, [ints r])] 57 2 (pgK f g l r f.length).length (prL (pgK f g l r f.length)) := by
  refine callRow_W (plain_prL _) (len_prL _) (by omega) (callS_W (by kernel_rfl) Try.func94 k_ppairs (callable_of Try.func94 (by kernel_rfl)) (by simp [c_ppairs]) ?_)
  simp [c_ppairs]
  refine loopW_count 13 f.length (fun k S => S.fr 0 = .one (.t (ints f)) ∧ S.fr 1 = .one (.t (ints g)) ∧ S.fr 2 = .one (.t (ints l)) ∧ S.fr 3 = .one (.t (ints r)) ∧ S.fr 12 = .one (.t (.int .i64 f.length)) ∧ outR 337 57 2 (pgK f g l r k).length (prL (pgK f g l r k)) S.ob (S.fr 9)) (by omega) ?_ ?_ ?_
  · simp [pgK, prL, outR_nil]
  · rintro k S hlt hw hc ⟨f0, f1, f2, f3, f12, ho⟩
    have hlt' : k < g.length := by omega
    obtain ⟨a1, a2⟩ := h1 _ (nth_mem hlt)
    obtain ⟨b1, b2⟩ := h2 _ (nth_mem hlt')
    obtain ⟨a, ha⟩ := Int.eq_ofNat_of_zero_le a1
    obtain ⟨b, hb⟩ := Int.eq_ofNat_of_zero_le b1
    have ha2 : a < l.length := by omega
    have hb2 : b < r.length := by omega
    have z := pgK_len (f := f) (g := g) (l := l) (r := r) (k := k)
    have zs := pgK_succ (f := f) (g := g) (l := l) (r := r) (k := k)
    rw [ha, hb, Int.toNat_natCast, Int.toNat_natCast] at zs
    have ho0 := ho
    rcases ho with ⟨c1, _, c3⟩ | ⟨c1, gg, c3, c4⟩
    all_goals
      simp [dw0, dw1, dw2, dw3, f0, f1, f2, f3, f12, c3, hc, hlt, hlt', drop_nth hlt, drop_nth hlt', ha, hb, ha2, hb2, drop_nth ha2, drop_nth hb2]
      refine kApp_grow (ts := [.int .i64 (nth l a), .int .i64 (nth r b)]) rfl (by rw [← c3]; exact ho0.keep fun g => by simp) (by omega) rfl (by omega) (by omega) fun E hE hob hcnt => ?_
      simp [dw0, dw1, dw2, dw3]
      refine ⟨rfl, ?_⟩
      simp [f0, f1, f2, f3, f12, hc, hw, zs]
      simpa [prL, prC, Nat.add_assoc] using hE
  · rintro S hc ⟨f0, f1, f2, f3, f12, ho⟩
    obtain ⟨u, hu⟩ := ho.one
    rw [hu] at ho
    simp [f0, f1, f2, f3, f12, hc, hu]
    exact ho.rowIs

/-! ### A graph's quotient by two partitions -/
def qnF (u : Gr) (p : List Int) (i : Nat) : Option Int := if nth p i = i then some (nth u.nodes i) else none
def qE (u : Gr) (p : List Int) (i : Nat) : Ed := ⟨(eth u.edges i).t, nth (quotL p) (eth u.edges i).f.toNat, nth (quotL p) (eth u.edges i).g.toNat⟩
def qeF (u : Gr) (p q : List Int) (i : Nat) : Option Ed := if nth q i = i then some (qE u p i) else none
/-- The quotient of a graph by partitions of its nodes and its edges. -/
def quoG (u : Gr) (p q : List Int) : Gr := ⟨collect (qnF u p) u.nodes.length, collect (qeF u p q) u.edges.length⟩
def quoM (p q : List Int) : Pa := ⟨quotL p, quotL q⟩

def c_pquotient : MFunc := ⟨121, [.cell 6 true 2, .cell 7 true 2, .tmp 8], .seq (.region [⟨some 3, .box 0 25 (.tmp 0), none⟩, ⟨some 6, .alloc 1 25 [.nil, .nil], none⟩, ⟨some 7, .alloc 2 28 [.nil, .nil], none⟩, ⟨some 8, .mv (.c (.one (.t (.int .i64 0)))), none⟩]) (.seq (.region [⟨some 25, .fieldA 0 (.tmp 3), none⟩, ⟨some 26, .load false 1 (.tmp 25), none⟩, ⟨some 27, .len (.tmp 26), none⟩, ⟨some 28, .mv (.tmp 1), none⟩, ⟨some 29, .call (.c (.one (.fn 124 []))) 68 [.tmp 27, .tmp 28], none⟩, ⟨some 24, .mv (.tmp 29), none⟩, ⟨some 30, .extract (.tmp 24) 0, none⟩, ⟨some 31, .extract (.tmp 24) 1, none⟩, ⟨some 9, .mv (.tmp 30), none⟩, ⟨some 10, .mv (.tmp 31), none⟩]) (.seq (.seq (.region [⟨some 32, .mv (.tmp 10), none⟩, ⟨some 33, .bin .neq (.tmp 32) (.c (.one (.t (.int .i64 0)))), none⟩]) (.cond (.tmp 33) (.seq (.region [⟨some 34, .build [.nil, .nil] [], none⟩, ⟨some 35, .build [.nil, .nil] [], none⟩, ⟨some 36, .mv (.tmp 10), none⟩, ⟨none, .store 2 (.tmp 6) (.tmp 34), none⟩, ⟨none, .store 2 (.tmp 7) (.tmp 35), none⟩, ⟨some 8, .mv (.tmp 36), none⟩]) .ret) .skip)) (.seq (.region [⟨some 38, .fieldA 1 (.tmp 3), none⟩, ⟨some 39, .load false 1 (.tmp 38), none⟩, ⟨some 40, .len (.tmp 39), none⟩, ⟨some 41, .mv (.tmp 2), none⟩, ⟨some 42, .call (.c (.one (.fn 124 []))) 260 [.tmp 40, .tmp 41], none⟩, ⟨some 37, .mv (.tmp 42), none⟩, ⟨some 43, .extract (.tmp 37) 0, none⟩, ⟨some 44, .extract (.tmp 37) 1, none⟩, ⟨some 11, .mv (.tmp 43), none⟩, ⟨some 10, .mv (.tmp 44), none⟩]) (.seq (.seq (.region [⟨some 45, .mv (.tmp 10), none⟩, ⟨some 46, .bin .neq (.tmp 45) (.c (.one (.t (.int .i64 0)))), none⟩]) (.cond (.tmp 46) (.seq (.region [⟨some 47, .build [.nil, .nil] [], none⟩, ⟨some 48, .build [.nil, .nil] [], none⟩, ⟨some 49, .mv (.tmp 10), none⟩, ⟨none, .store 2 (.tmp 6) (.tmp 47), none⟩, ⟨none, .store 2 (.tmp 7) (.tmp 48), none⟩, ⟨some 8, .mv (.tmp 49), none⟩]) .ret) .skip)) (.seq (.region [⟨some 51, .mv (.tmp 9), none⟩, ⟨some 52, .call (.c (.one (.fn 125 []))) 449 [.tmp 51], none⟩, ⟨some 50, .mv (.tmp 52), none⟩, ⟨some 53, .extract (.tmp 50) 0, none⟩, ⟨some 54, .extract (.tmp 50) 1, none⟩, ⟨some 55, .extract (.tmp 50) 2, none⟩, ⟨some 12, .mv (.tmp 53), none⟩, ⟨some 13, .mv (.tmp 54), none⟩, ⟨some 14, .mv (.tmp 55), none⟩]) (.seq (.region [⟨some 57, .mv (.tmp 11), none⟩, ⟨some 58, .call (.c (.one (.fn 125 []))) 513 [.tmp 57], none⟩, ⟨some 56, .mv (.tmp 58), none⟩, ⟨some 59, .extract (.tmp 56) 0, none⟩, ⟨some 60, .extract (.tmp 56) 1, none⟩, ⟨some 61, .extract (.tmp 56) 2, none⟩, ⟨some 15, .mv (.tmp 59), none⟩, ⟨some 16, .mv (.tmp 60), none⟩, ⟨some 17, .mv (.tmp 61), none⟩]) (.seq (.region [⟨some 18, .alloc 576 25 [.nil, .nil], none⟩]) (.seq (.seq (.region [⟨some 62, .mv (.tmp 9), none⟩, ⟨some 63, .len (.tmp 62), none⟩, ⟨some 64, .mv (.c (.one (.t (.int .i64 0)))), none⟩]) (.block 0 (.loop (.seq (.region [⟨some 65, .bin .lss (.tmp 64) (.tmp 63), none⟩]) (.seq (.cond (.tmp 65) .skip (.exit 0)) (.seq (.block 1 (.seq (.region [⟨some 66, .mv (.tmp 64), none⟩, ⟨some 67, .idxA 1 (.tmp 62) (.tmp 64), none⟩, ⟨some 68, .load false 1 (.tmp 67), none⟩, ⟨some 19, .mv (.tmp 66), none⟩, ⟨some 20, .mv (.tmp 68), none⟩]) (.seq (.region [⟨some 69, .mv (.tmp 20), none⟩, ⟨some 70, .mv (.tmp 19), none⟩, ⟨some 71, .bin .eql (.tmp 69) (.tmp 70), none⟩]) (.cond (.tmp 71) (.draw [[], [0], [], [2], [], [3, 4], [5], [6], [1, 7], [0, 1, 2, 3, 4, 5, 6, 7, 8], [9, 8, 8, 0, 1, 2, 3, 4, 5, 6, 7, 8]] [⟨some 72, .fieldA 0 (.tmp 18), none⟩, ⟨some 73, .load false 1 (.tmp 72), none⟩, ⟨some 74, .fieldA 0 (.tmp 3), none⟩, ⟨some 75, .load false 1 (.tmp 74), none⟩, ⟨some 76, .mv (.tmp 19), none⟩, ⟨some 77, .idxA 1 (.tmp 75) (.tmp 76), none⟩, ⟨some 78, .load false 1 (.tmp 77), none⟩, ⟨some 79, .mkrow 903 3 1 1 [.t (.int .i64 0)] [(0, (1, .tmp 78))], none⟩, ⟨some 80, .append 904 3 1 8 (.tmp 73) (.tmp 79), none⟩, ⟨some 81, .fieldA 0 (.tmp 18), none⟩, ⟨none, .store 1 (.tmp 81) (.tmp 80), none⟩]) .skip)))) (.region [⟨some 82, .bin .add (.tmp 64) (.c (.one (.t (.int .i64 1)))), none⟩, ⟨some 64, .mv (.tmp 82), none⟩]))))))) (.seq (.seq (.region [⟨some 83, .mv (.tmp 11), none⟩, ⟨some 84, .len (.tmp 83), none⟩, ⟨some 85, .mv (.c (.one (.t (.int .i64 0)))), none⟩]) (.block 2 (.loop (.seq (.region [⟨some 86, .bin .lss (.tmp 85) (.tmp 84), none⟩]) (.seq (.cond (.tmp 86) .skip (.exit 2)) (.seq (.block 3 (.seq (.region [⟨some 87, .mv (.tmp 85), none⟩, ⟨some 88, .idxA 1 (.tmp 83) (.tmp 85), none⟩, ⟨some 89, .load false 1 (.tmp 88), none⟩, ⟨some 21, .mv (.tmp 87), none⟩, ⟨some 22, .mv (.tmp 89), none⟩]) (.seq (.region [⟨some 90, .mv (.tmp 22), none⟩, ⟨some 91, .mv (.tmp 21), none⟩, ⟨some 92, .bin .eql (.tmp 90) (.tmp 91), none⟩]) (.cond (.tmp 92) (.seq (.region [⟨some 93, .fieldA 1 (.tmp 3), none⟩, ⟨some 94, .load false 1 (.tmp 93), none⟩, ⟨some 95, .mv (.tmp 21), none⟩, ⟨some 96, .idxA 3 (.tmp 94) (.tmp 95), none⟩, ⟨some 97, .load true 3 (.tmp 96), none⟩, ⟨some 23, .alloc 1285 73 [.t (.int .i64 0), .t (.int .i64 0), .t (.int .i64 0)], none⟩, ⟨none, .store 3 (.tmp 23) (.tmp 97), none⟩]) (.draw [[], [0], [], [2], [], [], [5], [4, 6], [7], [], [], [10], [9, 11], [12], [3, 8, 13], [14], [1, 15], [0, 1, 2, 3, 4, 5, 6, 7, 8, 9, 10, 11, 12, 13, 14, 15, 16], [17, 16, 16, 0, 1, 2, 3, 4, 5, 6, 7, 8, 9, 10, 11, 12, 13, 14, 15, 16]] [⟨some 98, .fieldA 1 (.tmp 18), none⟩, ⟨some 99, .load false 1 (.tmp 98), none⟩, ⟨some 100, .fieldA 0 (.tmp 23), none⟩, ⟨some 101, .load false 1 (.tmp 100), none⟩, ⟨some 102, .mv (.tmp 12), none⟩, ⟨some 103, .fieldA 1 (.tmp 23), none⟩, ⟨some 104, .load false 1 (.tmp 103), none⟩, ⟨some 105, .idxA 1 (.tmp 102) (.tmp 104), none⟩, ⟨some 106, .load false 1 (.tmp 105), none⟩, ⟨some 107, .mv (.tmp 12), none⟩, ⟨some 108, .fieldA 2 (.tmp 23), none⟩, ⟨some 109, .load false 1 (.tmp 108), none⟩, ⟨some 110, .idxA 1 (.tmp 107) (.tmp 109), none⟩, ⟨some 111, .load false 1 (.tmp 110), none⟩, ⟨some 112, .build [.t (.int .i64 0), .t (.int .i64 0), .t (.int .i64 0)] [(0, (1, .tmp 101)), (1, (1, .tmp 106)), (2, (1, .tmp 111))], none⟩, ⟨some 113, .mkrow 1359 73 3 1 [.t (.int .i64 0), .t (.int .i64 0), .t (.int .i64 0)] [(0, (3, .tmp 112))], none⟩, ⟨some 114, .append 1360 73 3 24 (.tmp 99) (.tmp 113), none⟩, ⟨some 115, .fieldA 1 (.tmp 18), none⟩, ⟨none, .store 1 (.tmp 115) (.tmp 114), none⟩])) .skip)))) (.region [⟨some 116, .bin .add (.tmp 85) (.c (.one (.t (.int .i64 1)))), none⟩, ⟨some 85, .mv (.tmp 116), none⟩]))))))) (.seq (.region [⟨some 117, .load true 2 (.tmp 18), none⟩, ⟨some 118, .mv (.tmp 12), none⟩, ⟨some 119, .mv (.tmp 15), none⟩, ⟨some 120, .build [.nil, .nil] [(0, (1, .tmp 118)), (1, (1, .tmp 119))], none⟩, ⟨none, .store 2 (.tmp 6) (.tmp 117), none⟩, ⟨none, .store 2 (.tmp 7) (.tmp 120), none⟩, ⟨some 8, .mv (.c (.one (.t (.int .i64 0)))), none⟩]) .ret))))))))))⟩
theorem k_pquotient : cFn Try.prog Try.f93 = some c_pquotient := by kernel_rfl
set_option maxHeartbeats 4000000 in
theorem pquotient_ok (u : Gr) (ln le : List (Int × Int)) (gu : GrOk u) (hn : tiny ln.length) (he : tiny le.length) (h1 : pairsIn ln u.nodes.length) (h2 : pairsIn le u.edges.length) :
    CallOK Try.prog 93 [u.v, (false, [prs ln]), (false, [prs le])] (.tup [(quoG u (genL u.nodes.length ln) (genL u.edges.length le)).v, (quoM (genL u.nodes.length ln) (genL u.edges.length le)).v, (false, [.int .i64 0])]) := by
  refine callOK_W (callS_W (by kernel_rfl) Try.func93 k_pquotient (callable_of Try.func93 (by kernel_rfl)) (by simp [c_pquotient]) ?_)
  have b1 := gu.n
  have b2 := gu.e
  have fp := genL_flat h1
  have fq := genL_flat h2
  have lp := genL_len (n := u.nodes.length) (l := ln)
  have lq := genL_len (n := u.edges.length) (l := le)
  simp [c_pquotient]
  refine callS_tree (generate_ok u.nodes.length ln (by omega) hn h1) ?_ ?_ ?_
  · rfl
  · rfl
  simp
  refine callS_tree (generate_ok u.edges.length le (by omega) he h2) ?_ ?_ ?_
  · rfl
  · rfl
  generalize genL u.nodes.length ln = p at *
  generalize genL u.edges.length le = q at *
  simp
  refine callS_tree (pquot_ok p fp (by omega)) ?_ ?_ ?_
  · rfl
  · rfl
  simp
  refine callS_tree (pquot_ok q fq (by omega)) ?_ ?_ ?_
  · rfl
  · rfl
  simp
  refine loopW_count 64 p.length (fun k S => S.fr 3 = .one (.ptr (0, 0) 0) ∧ S.fr 6 = .one (.ptr (1, 0) 0) ∧ S.fr 7 = .one (.ptr (2, 0) 0) ∧ S.fr 11 = .one (.t (ints q)) ∧ S.fr 12 = .one (.t (ints (quotL p))) ∧ S.fr 15 = .one (.t (ints (quotL q))) ∧ S.fr 18 = .one (.ptr (576, 0) 0) ∧ S.fr 62 = .one (.t (ints p)) ∧ S.fr 63 = .one (.t (.int .i64 p.length)) ∧
    S.ob (0, 0) = some (bx 25 (u.v.2.map .t)) ∧ S.ob (1, 0) = some (bx 25 [.nil, .nil]) ∧ S.ob (2, 0) = some (bx 28 [.nil, .nil]) ∧
    ∃ vN, S.ob (576, 0) = some (bx 25 [vN, .nil]) ∧ outR 904 3 1 (collect (qnF u p) k).length ((collect (qnF u p) k).map (.int .i64)) S.ob (.one vN)) (by omega) ?_ ?_ ?_
  · simp [collect_zero, outR_nil]
  · rintro k S hlt hw hc ⟨f3, f6, f7, f11, f12, f15, f18, f62, f63, o0, o1, o2, vN, o576, ho⟩
    have hltu : k < u.nodes.length := by omega
    have z := collect_len (f := qnF u p) (k := k)
    by_cases e : nth p k = k
    case neg =>
      have en : qnF u p k = none := by simp [qnF, e]
      simp [f3, f6, f7, f11, f12, f15, f18, f62, f63, o0, o1, o2, o576, hc, hlt, drop_nth hlt, e, hw, collect_none en]
      exact ho
    have en : qnF u p k = some (nth u.nodes k) := by simp [qnF, e]
    have ho0 := ho
    rcases ho with ⟨a1, _, a3⟩ | ⟨a1, ga, a3, a4⟩
    all_goals
      cases a3
      simp [dw0, dw1, dw2, dw3, f3, f6, f7, f11, f12, f15, f18, f62, f63, o0, o1, o2, o576, hc, hlt, drop_nth hlt, e, hltu, drop_nth hltu]
      refine kApp_grow (ts := [.int .i64 (nth u.nodes k)]) rfl (ho0.keep fun g => by simp) (by omega) rfl (by omega) (by omega) fun E hE hob hcnt => ?_
      obtain ⟨w, hu⟩ := hE.one
      rw [hu] at hE
      simp [dw0, dw1, dw2, dw3, f3, f6, f7, f11, f12, f15, f18, f62, f63, o0, o1, o2, o576, hc, hob, hu]
      refine ⟨rfl, ?_⟩
      simp [f3, f6, f7, f11, f12, f15, f18, f62, f63, o0, o1, o2, o576, hc, hw, hob, hu, collect_some en]
      exact outR.keep (by simpa using hE) fun g => by simp
  · rintro S hc ⟨f3, f6, f7, f11, f12, f15, f18, f62, f63, o0, o1, o2, vN, o576, ho⟩
    rw [lp] at ho
    simp [f3, f6, f7, f11, f12, f15, f18, f62, f63, o0, o1, o2, o576, hc]
    refine loopW_count 85 q.length (fun k S => S.fr 3 = .one (.ptr (0, 0) 0) ∧ S.fr 6 = .one (.ptr (1, 0) 0) ∧ S.fr 7 = .one (.ptr (2, 0) 0) ∧ S.fr 12 = .one (.t (ints (quotL p))) ∧ S.fr 15 = .one (.t (ints (quotL q))) ∧ S.fr 18 = .one (.ptr (576, 0) 0) ∧ S.fr 83 = .one (.t (ints q)) ∧ S.fr 84 = .one (.t (.int .i64 q.length)) ∧
      S.ob (0, 0) = some (bx 25 (u.v.2.map .t)) ∧ S.ob (1, 0) = some (bx 25 [.nil, .nil]) ∧ S.ob (2, 0) = some (bx 28 [.nil, .nil]) ∧
      outR 904 3 1 (collect (qnF u p) u.nodes.length).length ((collect (qnF u p) u.nodes.length).map (.int .i64)) S.ob (.one vN) ∧
      ∃ vE, S.ob (576, 0) = some (bx 25 [vN, vE]) ∧ outR 1360 73 3 (collect (qeF u p q) k).length (edL (collect (qeF u p q) k)) S.ob (.one vE)) (by omega) ?_ ?_ ?_
    · simp [f3, f6, f7, f11, f12, f15, f18, o0, o1, o2, o576, collect_zero, edL, outR_nil]
      simpa using ho
    · rintro k S hlt hw hc ⟨f3, f6, f7, f12, f15, f18, f83, f84, o0, o1, o2, hN, vE, o576, ho⟩
      have hltu : k < u.edges.length := by omega
      have hlt3 : k * 3 < u.edges.length * 3 := by omega
      have z := collect_len (f := qeF u p q) (k := k)
      by_cases e : nth q k = k
      case neg =>
        have en : qeF u p q k = none := by simp [qeF, e]
        simp [f3, f6, f7, f12, f15, f18, f83, f84, o0, o1, o2, o576, hc, hlt, drop_nth hlt, e, hw, collect_none en]
        exact ⟨by simpa using hN, ho⟩
      have en : qeF u p q k = some (qE u p k) := by simp [qeF, e]
      obtain ⟨_, _, g1, g2, g3, g4⟩ := gu.edges _ (eth_mem hltu)
      obtain ⟨x, hx⟩ := Int.eq_ofNat_of_zero_le g1
      obtain ⟨y, hy⟩ := Int.eq_ofNat_of_zero_le g3
      have ql := quotL_len (p := p)
      have hx2 : x < (quotL p).length := by omega
      have hy2 : y < (quotL p).length := by omega
      have eq : qE u p k = ⟨(eth u.edges k).t, nth (quotL p) x, nth (quotL p) y⟩ := by simp [qE, hx, hy]
      have ho0 := ho
      rcases ho with ⟨a1, _, a3⟩ | ⟨a1, ga, a3, a4⟩
      all_goals
        cases a3
        simp [dw0, dw1, dw2, dw3, f3, f6, f7, f12, f15, f18, f83, f84, o0, o1, o2, o576, hc, hlt, drop_nth hlt, e, hltu, hlt3, drop_edL hltu, hx, hy, hx2, hy2, drop_nth hx2, drop_nth hy2]
        refine kApp_grow (ts := edC ⟨(eth u.edges k).t, nth (quotL p) x, nth (quotL p) y⟩) rfl (ho0.keep fun g => by simp) (by omega) rfl (by omega) (by omega) fun E hE hob hcnt => ?_
        obtain ⟨w, hu⟩ := hE.one
        rw [hu] at hE
        have hN2 := hN.keep (ob' := E.ob) fun g => by rw [hob _ _ (by decide)]; simp
        simp [dw0, dw1, dw2, dw3, f3, f6, f7, f12, f15, f18, f83, f84, o0, o1, o2, o576, hc, hob, hu]
        refine ⟨rfl, ?_⟩
        simp [f3, f6, f7, f12, f15, f18, f83, f84, o0, o1, o2, o576, hc, hw, hob, hu, collect_some en, eq]
        exact ⟨outR.keep (by simpa using hN2) fun g => by simp, outR.keep (by simpa [edL, Nat.add_assoc] using hE) fun g => by simp⟩
    · rintro S hc ⟨f3, f6, f7, f12, f15, f18, f83, f84, o0, o1, o2, hN, vE, o576, ho⟩
      rw [lq] at ho
      have t1 := fun (ob' : Nm → Option Ob) (h : ∀ g, ob' (904, g) = S.ob (904, g)) => (hN.keep h).tree rfl
      have t2 := fun (ob' : Nm → Option Ob) (h : ∀ g, ob' (1360, g) = S.ob (1360, g)) => (ho.keep h).treeC
      simp [f3, f6, f7, f12, f15, f18, f83, f84, o0, o1, o2, o576, hc, -treeCell, treeCell_t]
      rw [t1 _ (fun g => by simp), t2 _ (fun g => by simp)]
      simp [quoG, quoM]
end Go.Proofs.Ythapbbpdcjmmfaa

/- Contracts: standard pushouts. -/
namespace Go.Proofs.Ythapbbpdcjmmfaa
open Abs
set_option linter.unusedSimpArgs false
set_option linter.unusedVariables false
attribute [local simp] rn0 rn1 rn2 rn3 rn4 rn5 rn6 rn7 evOp nests Arg.ev St.val St.set St.new sliceOf binInt2 binInt AV.cells rdAt St.live retOf resOf resAll treeOf treeCell treeCells treeTups untree frameOf TV.av TR.av ints edgs prs fillV splice intsOf trees V1.tree bx Gr.v Pa.v opRd opWr opNew opNewR opArgs argsRd argRd Arg.rd AV.refs V1.refs refsL dstL

structure Sp where
  A : Gr
  B : Gr
  C : Gr
  F : Pa
  G : Pa
def Sp.cs (s : Sp) : List Abs.C := [ints s.A.nodes, edgs s.A.edges, ints s.B.nodes, edgs s.B.edges, ints s.C.nodes, edgs s.C.edges, ints s.F.nodes, ints s.F.edges, ints s.G.nodes, ints s.G.edges]
def Sp.v (s : Sp) : TV := (true, s.cs)
structure TinySp (s : Sp) : Prop where
  A : tinyG s.A
  B : tinyG s.B
  C : tinyG s.C
  F : tinyP s.F
  G : tinyP s.G
/-- The error of a span. -/
def spErr (s : Sp) : Int := if morErr s.A s.B s.F = 0 then morErr s.A s.C s.G else morErr s.A s.B s.F
structure SpOk (s : Sp) : Prop where
  F : MorOk s.A s.B s.F
  G : MorOk s.A s.C s.G
theorem spErr_ok {s : Sp} (h : spErr s = 0) : SpOk s := by
  unfold spErr at h
  split at h
  · exact ⟨mor_ok (by assumption), mor_ok h⟩
  · exact absurd h (by assumption)

def c_pspan : MFunc := ⟨21, [.tmp 2], .seq (.region [⟨some 1, .box 0 71 (.tmp 0), none⟩, ⟨some 2, .mv (.c (.one (.t (.int .i64 0)))), none⟩]) (.seq (.seq (.region [⟨some 4, .fieldA 0 (.tmp 1), none⟩, ⟨some 5, .load true 2 (.tmp 4), none⟩, ⟨some 6, .fieldA 2 (.tmp 1), none⟩, ⟨some 7, .load true 2 (.tmp 6), none⟩, ⟨some 8, .fieldA 6 (.tmp 1), none⟩, ⟨some 9, .load true 2 (.tmp 8), none⟩, ⟨some 10, .call (.c (.one (.fn 69 []))) 70 [.tmp 5, .tmp 7, .tmp 9], none⟩, ⟨some 3, .mv (.tmp 10), none⟩]) (.seq (.region [⟨some 11, .mv (.tmp 3), none⟩, ⟨some 12, .bin .neq (.tmp 11) (.c (.one (.t (.int .i64 0)))), none⟩]) (.cond (.tmp 12) (.seq (.region [⟨some 13, .mv (.tmp 3), none⟩, ⟨some 2, .mv (.tmp 13), none⟩]) .ret) .skip))) (.seq (.region [⟨some 14, .fieldA 0 (.tmp 1), none⟩, ⟨some 15, .load true 2 (.tmp 14), none⟩, ⟨some 16, .fieldA 4 (.tmp 1), none⟩, ⟨some 17, .load true 2 (.tmp 16), none⟩, ⟨some 18, .fieldA 8 (.tmp 1), none⟩, ⟨some 19, .load true 2 (.tmp 18), none⟩, ⟨some 20, .call (.c (.one (.fn 69 []))) 262 [.tmp 15, .tmp 17, .tmp 19], none⟩, ⟨some 2, .mv (.tmp 20), none⟩]) .ret))⟩
theorem k_pspan : cFn Try.prog Try.f88 = some c_pspan := by kernel_rfl
theorem pspan_ok (s : Sp) (h : TinySp s) : CallOK Try.prog 88 [s.v] (.sv (false, [.int .i64 (spErr s)])) := by
  refine callOK_W (callS_W (by kernel_rfl) Try.func88 k_pspan (callable_of Try.func88 (by kernel_rfl)) (by simp [c_pspan]) ?_)
  simp [c_pspan, Sp.v, Sp.cs]
  refine callS_tree (mvalid_ok s.A s.B s.F h.A h.B h.F) ?_ ?_ ?_
  · rfl
  · rfl
  by_cases h1 : morErr s.A s.B s.F = 0
  case neg => simp [h1, spErr]
  simp [h1]
  refine callS_tree (mvalid_ok s.A s.C s.G h.A h.C h.G) ?_ ?_ ?_
  · rfl
  · rfl
  simp [h1, spErr]


def poU (s : Sp) : Gr := unG s.B s.C
def glN (s : Sp) : List (Int × Int) := pgK s.F.nodes s.G.nodes (unL s.B).nodes (unR s.B s.C).nodes s.F.nodes.length
def glE (s : Sp) : List (Int × Int) := pgK s.F.edges s.G.edges (unL s.B).edges (unR s.B s.C).edges s.F.edges.length
def poP (s : Sp) : List Int := genL (poU s).nodes.length (glN s)
def poQ (s : Sp) : List Int := genL (poU s).edges.length (glE s)
/-- The standard pushout: graph, and the morphisms into it. -/
def poG (s : Sp) : Gr := quoG (poU s) (poP s) (poQ s)
def poM (s : Sp) : Pa := quoM (poP s) (poQ s)
def poI (s : Sp) : Pa := thenP (unL s.B) (poM s)
def poJ (s : Sp) : Pa := thenP (unR s.B s.C) (poM s)
def gluR (s : Sp) : Gr × Pa × Pa × Int := if unErr s.B s.C = 0 then (poG s, poI s, poJ s, 0) else (⟨[], []⟩, ⟨[], []⟩, ⟨[], []⟩, unErr s.B s.C)
def gluT (x : Gr × Pa × Pa × Int) : TR := .tup [x.1.v, x.2.1.v, x.2.2.1.v, (false, [.int .i64 x.2.2.2])]
def poErr (s : Sp) : Int := if spErr s = 0 then unErr s.B s.C else spErr s
def poR (s : Sp) : Gr × Pa × Pa × Int := if poErr s = 0 then (poG s, poI s, poJ s, 0) else (⟨[], []⟩, ⟨[], []⟩, ⟨[], []⟩, poErr s)

theorem unErr_few {a b : Gr} (h : unErr a b = 0) : GrOk a ∧ GrOk b ∧ a.nodes.length + b.nodes.length ≤ 40 ∧ a.edges.length + b.edges.length ≤ 80 := by
  unfold unErr at h
  split at h
  · split at h
    · split at h
      · cases h
      · rename_i h1 h2 h3
        simp only [unBig] at h3
        exact ⟨gErr_ok h1, gErr_ok h2, by omega, by omega⟩
    · exact absurd h (by assumption)
  · exact absurd h (by assumption)
theorem unG_nlen {a b : Gr} : (unG a b).nodes.length = a.nodes.length + b.nodes.length := by simp [unG]
theorem unG_elen {a b : Gr} : (unG a b).edges.length = a.edges.length + b.edges.length := by simp [unG]
theorem unG_ok {a b : Gr} (h : unErr a b = 0) : GrOk (unG a b) := by
  obtain ⟨ga, gb, h1, h2⟩ := unErr_few h
  refine ⟨by rw [unG_nlen]; exact h1, by rw [unG_elen]; exact h2, fun x hx => ?_, fun e he => ?_⟩
  · simp only [unG, List.mem_append] at hx
    rcases hx with hx | hx
    · exact ga.kinds x hx
    · exact gb.kinds x hx
  · rw [unG_nlen]
    simp only [unG, List.mem_append, List.mem_map] at he
    rcases he with he | ⟨x, hx, rfl⟩
    · have := ga.edges e he
      omega
    · have := gb.edges x hx
      simp only [shiftE]
      omega
theorem glN_in {s : Sp} (ok : SpOk s) : pairsIn (glN s) (poU s).nodes.length := fun q hq => by
  simp only [glN, pgK, List.mem_map, List.mem_range] at hq
  obtain ⟨i, hi, rfl⟩ := hq
  have l1 := ok.F.ln
  have l2 := ok.G.ln
  obtain ⟨a1, a2, _⟩ := ok.F.n i (by omega)
  obtain ⟨b1, b2, _⟩ := ok.G.n i (by omega)
  obtain ⟨a, ha⟩ := Int.eq_ofNat_of_zero_le a1
  obtain ⟨b, hb⟩ := Int.eq_ofNat_of_zero_le b1
  simp only [ha, hb, Int.toNat_natCast, unL, unR, poU]
  rw [numL_nth (by omega), numL_nth (by omega), unG_nlen]
  omega
theorem glE_in {s : Sp} (ok : SpOk s) : pairsIn (glE s) (poU s).edges.length := fun q hq => by
  simp only [glE, pgK, List.mem_map, List.mem_range] at hq
  obtain ⟨i, hi, rfl⟩ := hq
  have l1 := ok.F.le
  have l2 := ok.G.le
  obtain ⟨a1, a2, _⟩ := ok.F.e i (by omega)
  obtain ⟨b1, b2, _⟩ := ok.G.e i (by omega)
  obtain ⟨a, ha⟩ := Int.eq_ofNat_of_zero_le a1
  obtain ⟨b, hb⟩ := Int.eq_ofNat_of_zero_le b1
  simp only [ha, hb, Int.toNat_natCast, unL, unR, poU]
  rw [numL_nth (by omega), numL_nth (by omega), unG_elen]
  omega
theorem numL_in {a n m : Nat} (h : a + n ≤ m) : placesIn (numL a n) m := fun x hx => by
  simp only [numL, List.mem_map, List.mem_range] at hx
  obtain ⟨i, hi, rfl⟩ := hx
  omega
theorem poM_len {s : Sp} : (poM s).nodes.length = s.B.nodes.length + s.C.nodes.length ∧ (poM s).edges.length = s.B.edges.length + s.C.edges.length := by
  simp only [poM, quoM, quotL_len, poP, poQ, genL_len, poU, unG_nlen, unG_elen]
  exact ⟨trivial, trivial⟩
theorem fitL {s : Sp} : FitsP (unL s.B) (poM s) := ⟨numL_in (by rw [poM_len.1]; omega), numL_in (by rw [poM_len.2]; omega)⟩
theorem fitR {s : Sp} : FitsP (unR s.B s.C) (poM s) := ⟨numL_in (by rw [poM_len.1]; omega), numL_in (by rw [poM_len.2]; omega)⟩
theorem tinyL {a : Gr} (h : tinyG a) : tinyP (unL a) := ⟨by simp only [unL, numL_len]; exact h.1, by simp only [unL, numL_len]; exact h.2⟩
theorem tinyR {a b : Gr} (h : tinyG b) : tinyP (unR a b) := ⟨by simp only [unR, numL_len]; exact h.1, by simp only [unR, numL_len]; exact h.2⟩

def c_pglue : MFunc := ⟨69, [.cell 2 true 2, .cell 3 true 2, .cell 4 true 2, .tmp 5], .seq (.region [⟨some 1, .box 0 71 (.tmp 0), none⟩, ⟨some 2, .alloc 1 25 [.nil, .nil], none⟩, ⟨some 3, .alloc 2 28 [.nil, .nil], none⟩, ⟨some 4, .alloc 3 28 [.nil, .nil], none⟩, ⟨some 5, .mv (.c (.one (.t (.int .i64 0)))), none⟩]) (.seq (.region [⟨some 13, .fieldA 2 (.tmp 1), none⟩, ⟨some 14, .load true 2 (.tmp 13), none⟩, ⟨some 15, .fieldA 4 (.tmp 1), none⟩, ⟨some 16, .load true 2 (.tmp 15), none⟩, ⟨some 17, .call (.c (.one (.fn 92 []))) 68 [.tmp 14, .tmp 16], none⟩, ⟨some 12, .mv (.tmp 17), none⟩, ⟨some 18, .extract (.tmp 12) 0, none⟩, ⟨some 19, .extract (.tmp 12) 1, none⟩, ⟨some 20, .extract (.tmp 12) 2, none⟩, ⟨some 21, .extract (.tmp 12) 3, none⟩, ⟨some 6, .alloc 74 25 [.nil, .nil], none⟩, ⟨some 7, .alloc 75 28 [.nil, .nil], none⟩, ⟨some 8, .alloc 76 28 [.nil, .nil], none⟩, ⟨none, .store 2 (.tmp 6) (.tmp 18), none⟩, ⟨none, .store 2 (.tmp 7) (.tmp 19), none⟩, ⟨none, .store 2 (.tmp 8) (.tmp 20), none⟩, ⟨some 9, .mv (.tmp 21), none⟩]) (.seq (.seq (.region [⟨some 22, .mv (.tmp 9), none⟩, ⟨some 23, .bin .neq (.tmp 22) (.c (.one (.t (.int .i64 0)))), none⟩]) (.cond (.tmp 23) (.seq (.region [⟨some 24, .build [.nil, .nil] [], none⟩, ⟨some 25, .build [.nil, .nil] [], none⟩, ⟨some 26, .build [.nil, .nil] [], none⟩, ⟨some 27, .mv (.tmp 9), none⟩, ⟨none, .store 2 (.tmp 2) (.tmp 24), none⟩, ⟨none, .store 2 (.tmp 3) (.tmp 25), none⟩, ⟨none, .store 2 (.tmp 4) (.tmp 26), none⟩, ⟨some 5, .mv (.tmp 27), none⟩]) .ret) .skip)) (.seq (.draw [[], [], [1], [2], [], [4], [5], [], [7], [], [9], [3, 6, 8, 10], [], [12], [13], [], [15], [16], [], [18], [], [20], [14, 17, 19, 21, 11], [0, 11, 22, 22], [23], [24], [24], [24], [], [], [28, 25, 23, 0, 1, 2, 3, 4, 5, 6, 7, 8, 9, 10, 11, 12, 13, 14, 15, 16, 17, 18, 19, 20, 21, 22, 23, 24, 25, 28, 29], [29, 26, 30, 0, 1, 2, 3, 4, 5, 6, 7, 8, 9, 10, 11, 12, 13, 14, 15, 16, 17, 18, 19, 20, 21, 22, 23, 24, 25, 26, 28, 29, 30], [27, 31, 0, 1, 2, 3, 4, 5, 6, 7, 8, 9, 10, 11, 12, 13, 14, 15, 16, 17, 18, 19, 20, 21, 22, 23, 24, 25, 26, 27, 28, 29, 30, 31]] [⟨some 29, .load true 2 (.tmp 6), none⟩, ⟨some 30, .fieldA 6 (.tmp 1), none⟩, ⟨some 31, .fieldA 0 (.tmp 30), none⟩, ⟨some 32, .load false 1 (.tmp 31), none⟩, ⟨some 33, .fieldA 8 (.tmp 1), none⟩, ⟨some 34, .fieldA 0 (.tmp 33), none⟩, ⟨some 35, .load false 1 (.tmp 34), none⟩, ⟨some 36, .fieldA 0 (.tmp 7), none⟩, ⟨some 37, .load false 1 (.tmp 36), none⟩, ⟨some 38, .fieldA 0 (.tmp 8), none⟩, ⟨some 39, .load false 1 (.tmp 38), none⟩, ⟨some 40, .call (.c (.one (.fn 94 []))) 267 [.tmp 32, .tmp 35, .tmp 37, .tmp 39], none⟩, ⟨some 41, .fieldA 6 (.tmp 1), none⟩, ⟨some 42, .fieldA 1 (.tmp 41), none⟩, ⟨some 43, .load false 1 (.tmp 42), none⟩, ⟨some 44, .fieldA 8 (.tmp 1), none⟩, ⟨some 45, .fieldA 1 (.tmp 44), none⟩, ⟨some 46, .load false 1 (.tmp 45), none⟩, ⟨some 47, .fieldA 1 (.tmp 7), none⟩, ⟨some 48, .load false 1 (.tmp 47), none⟩, ⟨some 49, .fieldA 1 (.tmp 8), none⟩, ⟨some 50, .load false 1 (.tmp 49), none⟩, ⟨some 51, .call (.c (.one (.fn 94 []))) 278 [.tmp 43, .tmp 46, .tmp 48, .tmp 50], none⟩, ⟨some 52, .call (.c (.one (.fn 93 []))) 279 [.tmp 29, .tmp 40, .tmp 51], none⟩, ⟨some 28, .mv (.tmp 52), none⟩, ⟨some 53, .extract (.tmp 28) 0, none⟩, ⟨some 54, .extract (.tmp 28) 1, none⟩, ⟨some 55, .extract (.tmp 28) 2, none⟩, ⟨some 10, .alloc 284 25 [.nil, .nil], none⟩, ⟨some 11, .alloc 285 28 [.nil, .nil], none⟩, ⟨none, .store 2 (.tmp 10) (.tmp 53), none⟩, ⟨none, .store 2 (.tmp 11) (.tmp 54), none⟩, ⟨some 9, .mv (.tmp 55), none⟩]) (.seq (.seq (.region [⟨some 56, .mv (.tmp 9), none⟩, ⟨some 57, .bin .neq (.tmp 56) (.c (.one (.t (.int .i64 0)))), none⟩]) (.cond (.tmp 57) (.seq (.region [⟨some 58, .build [.nil, .nil] [], none⟩, ⟨some 59, .build [.nil, .nil] [], none⟩, ⟨some 60, .build [.nil, .nil] [], none⟩, ⟨some 61, .mv (.tmp 9), none⟩, ⟨none, .store 2 (.tmp 2) (.tmp 58), none⟩, ⟨none, .store 2 (.tmp 3) (.tmp 59), none⟩, ⟨none, .store 2 (.tmp 4) (.tmp 60), none⟩, ⟨some 5, .mv (.tmp 61), none⟩]) .ret) .skip)) (.seq (.draw [[], [], [], [1, 2], [], [], [4, 5, 3], [0, 6, 0], [3, 7, 0, 1, 2, 3, 7], [6, 8, 0, 1, 2, 3, 4, 5, 6, 7, 8], [9, 0, 1, 2, 3, 4, 5, 6, 7, 8, 9]] [⟨some 62, .load true 2 (.tmp 10), none⟩, ⟨some 63, .load true 2 (.tmp 7), none⟩, ⟨some 64, .load true 2 (.tmp 11), none⟩, ⟨some 65, .call (.c (.one (.fn 90 []))) 451 [.tmp 63, .tmp 64], none⟩, ⟨some 66, .load true 2 (.tmp 8), none⟩, ⟨some 67, .load true 2 (.tmp 11), none⟩, ⟨some 68, .call (.c (.one (.fn 90 []))) 454 [.tmp 66, .tmp 67], none⟩, ⟨none, .store 2 (.tmp 2) (.tmp 62), none⟩, ⟨none, .store 2 (.tmp 3) (.tmp 65), none⟩, ⟨none, .store 2 (.tmp 4) (.tmp 68), none⟩, ⟨some 5, .mv (.c (.one (.t (.int .i64 0)))), none⟩]) .ret)))))⟩
theorem k_pglue : cFn Try.prog Try.f66 = some c_pglue := by kernel_rfl
set_option maxHeartbeats 4000000 in
theorem pglue_ok (s : Sp) (h : TinySp s) (ok : SpOk s) : CallOK Try.prog 66 [s.v] (gluT (gluR s)) := by
  refine callOK_W (callS_W (by kernel_rfl) Try.func66 k_pglue (callable_of Try.func66 (by kernel_rfl)) (by simp [c_pglue]) ?_)
  simp [c_pglue, Sp.v, Sp.cs]
  refine callS_tree (gunion_ok s.B s.C h.B h.C) ?_ ?_ ?_
  · rfl
  · simp [AV.still, V1.still]
  by_cases h1 : unErr s.B s.C = 0
  case neg =>
    have e : gluR s = (⟨[], []⟩, ⟨[], []⟩, ⟨[], []⟩, unErr s.B s.C) := by simp [gluR, h1]
    simp [unT, h1, gluT, e, edL]
  have e : gluR s = (poG s, poI s, poJ s, 0) := by simp [gluR, h1]
  obtain ⟨ga, gb, n1, n2⟩ := unErr_few h1
  have l1 := ok.F.ln
  have l2 := ok.G.ln
  have l3 := ok.F.le
  have l4 := ok.G.le
  have b1 := ok.F.ga.n
  have b2 := ok.F.ga.e
  simp [dw0, dw1, dw2, dw3, unT, h1]
  refine dCall_ok (callOK_of_row (ppairs_row s.F.nodes s.G.nodes (unL s.B).nodes (unR s.B s.C).nodes (by omega) (by omega) (fun x hx => by have := ok.F.rn x hx; simp only [unL, numL_len]; exact this) (fun x hx => by have := ok.G.rn x hx; simp only [unR, numL_len]; exact this))) ?_ ?_ ?_
  · rfl
  · rfl
  simp [dw0, dw1, dw2, dw3]
  refine dCall_ok (callOK_of_row (ppairs_row s.F.edges s.G.edges (unL s.B).edges (unR s.B s.C).edges (by omega) (by omega) (fun x hx => by have := ok.F.re x hx; simp only [unL, numL_len]; exact this) (fun x hx => by have := ok.G.re x hx; simp only [unR, numL_len]; exact this))) ?_ ?_ ?_
  · rfl
  · rfl
  simp [dw0, dw1, dw2, dw3]
  refine dCall_ok (pquotient_ok (poU s) (glN s) (glE s) (unG_ok h1) (by simp only [glN, pgK_len, tiny]; omega) (by simp only [glE, pgK_len, tiny]; omega) (glN_in ok) (glE_in ok)) ?_ ?_ ?_
  · rfl
  · rfl
  have eG : quoG (poU s) (genL (poU s).nodes.length (glN s)) (genL (poU s).edges.length (glE s)) = poG s := rfl
  have eM : quoM (genL (poU s).nodes.length (glN s)) (genL (poU s).edges.length (glE s)) = poM s := rfl
  rw [eG, eM]
  simp [dw0, dw1, dw2, dw3]
  refine ⟨rfl, ?_⟩
  refine dCall_ok (pthen_ok (unL s.B) (poM s) (tinyL h.B) fitL) ?_ ?_ ?_
  · rfl
  · rfl
  simp [dw0, dw1, dw2, dw3]
  refine dCall_ok (pthen_ok (unR s.B s.C) (poM s) (tinyR h.C) fitR) ?_ ?_ ?_
  · rfl
  · rfl
  simp [dw0, dw1, dw2, dw3, gluT, e, poI, poJ]
  rfl

end Go.Proofs.Ythapbbpdcjmmfaa

/- Contracts: mediating morphisms out of pushouts; checks of pushouts. -/
namespace Go.Proofs.Ythapbbpdcjmmfaa
open Abs
set_option linter.unusedSimpArgs false
set_option linter.unusedVariables false
attribute [local simp] rn0 rn1 rn2 rn3 rn4 rn5 rn6 rn7 evOp nests Arg.ev St.val St.set St.new sliceOf binInt2 binInt AV.cells rdAt St.live retOf resOf resAll treeOf treeCell treeCells treeTups untree frameOf TV.av TR.av ints edgs prs fillV splice intsOf trees V1.tree bx Gr.v Pa.v

/-- A list of zeros into which numbers are written. -/
def wrL (n : Nat) (ws : List (Int × Int)) : List Int := ws.foldl (fun o w => o.set w.1.toNat w.2) (List.replicate n 0)
theorem wr_len {ws : List (Int × Int)} {o : List Int} : (ws.foldl (fun o w => o.set w.1.toNat w.2) o).length = o.length := by
  induction ws generalizing o with
  | nil => rfl
  | cons w r ih => rw [List.foldl_cons, ih, List.length_set]
theorem wrL_len {n : Nat} {ws : List (Int × Int)} : (wrL n ws).length = n := by rw [wrL, wr_len, List.length_replicate]
theorem wrL_snoc {n : Nat} {ws : List (Int × Int)} {w : Int × Int} : wrL n (ws ++ [w]) = (wrL n ws).set w.1.toNat w.2 := by simp [wrL]
theorem zip_take_succ {a b : List Int} {k : Nat} (h : k < a.length) (h2 : a.length ≤ b.length) : (a.zip b).take (k + 1) = (a.zip b).take k ++ [(nth a k, nth b k)] := by
  have hz : k < (a.zip b).length := by simp; omega
  rw [List.take_succ_eq_append_getElem hz, nth_eq h, nth_eq (show k < b.length by omega)]
  simp
theorem zip_take_all {a b : List Int} (h2 : a.length ≤ b.length) : (a.zip b).take a.length = a.zip b := List.take_of_length_le (by simp; omega)

def c_filled : MFunc := ⟨41, [.tmp 6], .seq (.region [⟨some 6, .mv (.c (.one .nil)), none⟩]) (.seq (.region [⟨some 12, .mv (.tmp 0), none⟩, ⟨some 13, .make 65 3 1 8 [.t (.int .i64 0)] (.tmp 12) (.tmp 12), none⟩, ⟨some 7, .mv (.tmp 13), none⟩]) (.seq (.seq (.region [⟨some 14, .mv (.tmp 1), none⟩, ⟨some 15, .len (.tmp 14), none⟩, ⟨some 16, .mv (.c (.one (.t (.int .i64 0)))), none⟩]) (.block 0 (.loop (.seq (.region [⟨some 17, .bin .lss (.tmp 16) (.tmp 15), none⟩]) (.seq (.cond (.tmp 17) .skip (.exit 0)) (.seq (.block 1 (.seq (.region [⟨some 18, .mv (.tmp 16), none⟩, ⟨some 19, .idxA 1 (.tmp 14) (.tmp 16), none⟩, ⟨some 20, .load false 1 (.tmp 19), none⟩, ⟨some 8, .mv (.tmp 18), none⟩, ⟨some 9, .mv (.tmp 20), none⟩]) (.seq (.region [⟨some 21, .mv (.tmp 9), none⟩, ⟨some 22, .len (.tmp 21), none⟩, ⟨some 23, .mv (.c (.one (.t (.int .i64 0)))), none⟩]) (.block 2 (.loop (.seq (.region [⟨some 24, .bin .lss (.tmp 23) (.tmp 22), none⟩]) (.seq (.cond (.tmp 24) .skip (.exit 2)) (.seq (.block 3 (.seq (.region [⟨some 25, .mv (.tmp 23), none⟩, ⟨some 26, .idxA 1 (.tmp 21) (.tmp 23), none⟩, ⟨some 27, .load false 1 (.tmp 26), none⟩, ⟨some 10, .mv (.tmp 25), none⟩, ⟨some 11, .mv (.tmp 27), none⟩]) (.region [⟨some 28, .mv (.tmp 7), none⟩, ⟨some 29, .mv (.tmp 11), none⟩, ⟨some 30, .mv (.tmp 2), none⟩, ⟨some 31, .mv (.tmp 8), none⟩, ⟨some 32, .idxA 1 (.tmp 30) (.tmp 31), none⟩, ⟨some 33, .load false 1 (.tmp 32), none⟩, ⟨some 34, .mv (.tmp 10), none⟩, ⟨some 35, .idxA 1 (.tmp 33) (.tmp 34), none⟩, ⟨some 36, .load false 1 (.tmp 35), none⟩, ⟨some 37, .idxA 1 (.tmp 28) (.tmp 29), none⟩, ⟨none, .store 1 (.tmp 37) (.tmp 36), none⟩]))) (.region [⟨some 38, .bin .add (.tmp 23) (.c (.one (.t (.int .i64 1)))), none⟩, ⟨some 23, .mv (.tmp 38), none⟩]))))))))) (.region [⟨some 39, .bin .add (.tmp 16) (.c (.one (.t (.int .i64 1)))), none⟩, ⟨some 16, .mv (.tmp 39), none⟩]))))))) (.seq (.region [⟨some 40, .mv (.tmp 7), none⟩, ⟨some 6, .mv (.tmp 40), none⟩]) .ret)))⟩
theorem k_filled : cFn Try.prog Try.f91 = some c_filled := by kernel_rfl
set_option maxHeartbeats 1000000 in
theorem filled_ok (n : Nat) (a b c d : List Int) (hn : tiny n) (ha : placesIn a n) (hb : placesIn b n) (hac : a.length ≤ c.length) (hbd : b.length ≤ d.length) (la : tiny a.length) (lb : tiny b.length) :
    CallOK Try.prog 91 [(false, [.int .i64 n]), (false, [twoL a b]), (false, [twoL c d])] (.sv (false, [ints (wrL n (a.zip c ++ b.zip d))])) := by
  refine callOK_W (callS_W (by kernel_rfl) Try.func91 k_filled (callable_of Try.func91 (by kernel_rfl)) (by simp [c_filled]) ?_)
  have hn' := hn
  simp only [tiny] at hn'
  have n1 : n * 8 ≤ 140737488355328 := by omega
  have n2 : (n : Int) ≤ 9223372036854775807 := by omega
  simp [c_filled, twoL, n1, n2]
  refine loopW_count 16 2 (fun k S => S.fr 2 = .one (.t (twoL c d)) ∧ S.fr 7 = .one (.row (65, 0)) ∧ S.fr 14 = .one (.t (twoL a b)) ∧ S.fr 15 = .one (.t (.int .i64 2)) ∧ S.ob (65, 0) = some (rowO (wrL n (if k = 0 then [] else if k = 1 then a.zip c else a.zip c ++ b.zip d)))) (by omega) ?_ ?_ ?_
  · simp [twoL, rowO, wrL]
  · rintro k S hlt hw hc ⟨f2, f7, f14, f15, o65⟩
    have hk : k = 0 ∨ k = 1 := by omega
    rcases hk with rfl | rfl
    · simp at hc hw o65
      simp [twoL, f2, f7, f14, f15, hc]
      refine loopW_count 23 a.length (fun j S => S.fr 2 = .one (.t (twoL c d)) ∧ S.fr 7 = .one (.row (65, 0)) ∧ S.fr 8 = .one (.t (.int .i64 0)) ∧ S.fr 14 = .one (.t (twoL a b)) ∧ S.fr 15 = .one (.t (.int .i64 2)) ∧ S.fr 16 = .one (.t (.int .i64 0)) ∧ S.fr 21 = .one (.t (ints a)) ∧ S.fr 22 = .one (.t (.int .i64 a.length)) ∧ S.ob (65, 0) = some (rowO (wrL n ((a.zip c).take j)))) la.small ?_ ?_ ?_
      · simp [twoL, f2, f7, f14, f15, hc, o65]
      · rintro j S' hlt' hw' hc' ⟨f2, f7, f8, f14, f15, f16, f21, f22, o65⟩
        have hj2 : j < c.length := by omega
        obtain ⟨x1, x2⟩ := ha _ (nth_mem hlt')
        obtain ⟨x, hx⟩ := Int.eq_ofNat_of_zero_le x1
        have hxn : x < n := by omega
        have hxn1 : x + 1 ≤ n := by omega
        have hxl : x < (wrL n ((a.zip c).take j)).length := by rw [wrL_len]; exact hxn
        have e2 := row_set (v := nth c j) hxl
        have e3 : wrL n ((a.zip c).take (j + 1)) = (wrL n ((a.zip c).take j)).set x (nth c j) := by rw [zip_take_succ hlt' hac, wrL_snoc, hx]; rfl
        have e4 := wrL_len (n := n) (ws := (a.zip c).take j)
        have e5 := wrL_len (n := n) (ws := (a.zip c).take (j + 1))
        simp [twoL, f2, f7, f8, f14, f15, f16, f21, f22, hc', hlt', drop_nth hlt', hx, hj2, drop_nth hj2, o65, rowO, e4, hxn, hxn1, hw', e2, e3]
      · rintro S' hc' ⟨f2, f7, f8, f14, f15, f16, f21, f22, o65⟩
        rw [zip_take_all hac] at o65
        simp [twoL, f2, f7, f8, f14, f15, f16, f21, f22, hc', hw, o65]
    · simp at hc hw o65
      simp [twoL, f2, f7, f14, f15, hc]
      refine loopW_count 23 b.length (fun j S => S.fr 2 = .one (.t (twoL c d)) ∧ S.fr 7 = .one (.row (65, 0)) ∧ S.fr 8 = .one (.t (.int .i64 1)) ∧ S.fr 14 = .one (.t (twoL a b)) ∧ S.fr 15 = .one (.t (.int .i64 2)) ∧ S.fr 16 = .one (.t (.int .i64 1)) ∧ S.fr 21 = .one (.t (ints b)) ∧ S.fr 22 = .one (.t (.int .i64 b.length)) ∧ S.ob (65, 0) = some (rowO (wrL n (a.zip c ++ (b.zip d).take j)))) lb.small ?_ ?_ ?_
      · simp [twoL, f2, f7, f14, f15, hc, o65]
      · rintro j S' hlt' hw' hc' ⟨f2, f7, f8, f14, f15, f16, f21, f22, o65⟩
        have hj2 : j < d.length := by omega
        obtain ⟨x1, x2⟩ := hb _ (nth_mem hlt')
        obtain ⟨x, hx⟩ := Int.eq_ofNat_of_zero_le x1
        have hxn : x < n := by omega
        have hxn1 : x + 1 ≤ n := by omega
        have hxl : x < (wrL n (a.zip c ++ (b.zip d).take j)).length := by rw [wrL_len]; exact hxn
        have e2 := row_set (v := nth d j) hxl
        have e3 : wrL n (a.zip c ++ (b.zip d).take (j + 1)) = (wrL n (a.zip c ++ (b.zip d).take j)).set x (nth d j) := by rw [zip_take_succ hlt' hbd, ← List.append_assoc, wrL_snoc, hx]; rfl
        have e4 := wrL_len (n := n) (ws := a.zip c ++ (b.zip d).take j)
        have e5 := wrL_len (n := n) (ws := a.zip c ++ (b.zip d).take (j + 1))
        simp [twoL, f2, f7, f8, f14, f15, f16, f21, f22, hc', hlt', drop_nth hlt', hx, hj2, drop_nth hj2, o65, rowO, e4, hxn, hxn1, hw', e2, e3]
      · rintro S' hc' ⟨f2, f7, f8, f14, f15, f16, f21, f22, o65⟩
        rw [zip_take_all hbd] at o65
        simp [twoL, f2, f7, f8, f14, f15, f16, f21, f22, hc', hw, o65]
  · rintro S hc ⟨f2, f7, f14, f15, o65⟩
    simp at o65
    have et := fun fr cnt => rowO_tree (fr := fr) (cnt := cnt) o65
    simp [f2, f7, f14, f15, hc, -treeCell, treeCell_t, et]
end Go.Proofs.Ythapbbpdcjmmfaa

/- Contracts: mediating morphisms out of pushouts (2); checks of pushouts. -/
namespace Go.Proofs.Ythapbbpdcjmmfaa
open Abs
set_option linter.unusedSimpArgs false
set_option linter.unusedVariables false
attribute [local simp] rn0 rn1 rn2 rn3 rn4 rn5 rn6 rn7 evOp nests Arg.ev St.val St.set St.new sliceOf binInt2 binInt AV.cells rdAt St.live retOf resOf resAll treeOf treeCell treeCells treeTups untree frameOf TV.av TR.av ints edgs prs fillV splice intsOf trees V1.tree bx Gr.v Pa.v opRd opWr opNew opNewR opArgs argsRd argRd Arg.rd AV.refs V1.refs refsL dstL

theorem cls_collect {α : Type} {p : List Int} {f : Nat → α} : ∀ {n : Nat}, (collect (fun i => if nth p i = i then some (f i) else none) n).length = clsN p n
  | 0 => rfl
  | n + 1 => by
    have ih := cls_collect (p := p) (f := f) (n := n)
    by_cases e : nth p n = n
    · rw [collect_some (x := f n) (by rw [if_pos e]), List.length_append, ih]
      simp [clsN, e]
    · rw [collect_none (by rw [if_neg e]), ih]
      simp [clsN, e]
theorem quoG_nlen {u : Gr} {p q : List Int} : (quoG u p q).nodes.length = clsN p u.nodes.length := cls_collect
theorem quoG_elen {u : Gr} {p q : List Int} : (quoG u p q).edges.length = clsN q u.edges.length := cls_collect
theorem quotL_in {p : List Int} {n : Nat} (hp : Flat p) (hn : p.length = n) : placesIn (quotL p) (clsN p n) := fun x hx => by
  obtain ⟨i, hi, rfl⟩ := mem_nth hx
  rw [quotL_len] at hi
  obtain ⟨j, hj, hle⟩ := hp.fo.at hi
  have hf := hp.fx i hi
  rw [hj, Int.toNat_natCast] at hf
  rw [quotL_nth hi, hj, Int.toNat_natCast]
  have := clsN_lt (p := p) (a := j) (b := n) hf (by omega)
  omega
theorem thru_in {a b : List Int} {n : Nat} (h : placesIn b n) (hf : placesIn a b.length) : placesIn (thru a b) n := fun x hx => by
  simp only [thru, List.mem_map] at hx
  obtain ⟨y, hy, rfl⟩ := hx
  obtain ⟨h1, h2⟩ := hf y hy
  exact h _ (nth_mem (by omega))

theorem poP_flat {s : Sp} (ok : SpOk s) : Flat (poP s) := genL_flat (glN_in ok)
theorem poQ_flat {s : Sp} (ok : SpOk s) : Flat (poQ s) := genL_flat (glE_in ok)
theorem poI_nin {s : Sp} (ok : SpOk s) : placesIn (poI s).nodes (poG s).nodes.length := by
  rw [poG, quoG_nlen]
  exact thru_in (quotL_in (poP_flat ok) genL_len) fitL.fn
theorem poI_ein {s : Sp} (ok : SpOk s) : placesIn (poI s).edges (poG s).edges.length := by
  rw [poG, quoG_elen]
  exact thru_in (quotL_in (poQ_flat ok) genL_len) fitL.fe
theorem poJ_nin {s : Sp} (ok : SpOk s) : placesIn (poJ s).nodes (poG s).nodes.length := by
  rw [poG, quoG_nlen]
  exact thru_in (quotL_in (poP_flat ok) genL_len) fitR.fn
theorem poJ_ein {s : Sp} (ok : SpOk s) : placesIn (poJ s).edges (poG s).edges.length := by
  rw [poG, quoG_elen]
  exact thru_in (quotL_in (poQ_flat ok) genL_len) fitR.fe
theorem poI_len {s : Sp} : (poI s).nodes.length = s.B.nodes.length ∧ (poI s).edges.length = s.B.edges.length := by simp [poI, thenP, thru_len, unL, numL_len]
theorem poJ_len {s : Sp} : (poJ s).nodes.length = s.C.nodes.length ∧ (poJ s).edges.length = s.C.edges.length := by simp [poJ, thenP, thru_len, unR, numL_len]
theorem poG_few {s : Sp} (h : unErr s.B s.C = 0) : (poG s).nodes.length ≤ 40 ∧ (poG s).edges.length ≤ 80 := by
  have g := unG_ok h
  have h1 := g.n
  have h2 := g.e
  have h3 : (poG s).nodes.length ≤ (unG s.B s.C).nodes.length := collect_len
  have h4 : (poG s).edges.length ≤ (unG s.B s.C).edges.length := collect_len
  omega

/-- The mediating morphism of a cocone, or an error. -/
def pmE (s : Sp) (x : Gr) (h k : Pa) : Int :=
  if spErr s = 0 then if morErr s.B x h = 0 then if morErr s.C x k = 0 then if unErr s.B s.C = 0 then if sameP (thenP s.F h) (thenP s.G k) = true then 0 else 11 else unErr s.B s.C else morErr s.C x k else morErr s.B x h else spErr s
def pmC (s : Sp) (h k : Pa) : Pa := ⟨wrL (poG s).nodes.length ((poI s).nodes.zip h.nodes ++ (poJ s).nodes.zip k.nodes), wrL (poG s).edges.length ((poI s).edges.zip h.edges ++ (poJ s).edges.zip k.edges)⟩
def pmR (s : Sp) (x : Gr) (h k : Pa) : Pa × Int := if pmE s x h k = 0 then (pmC s h k, 0) else (⟨[], []⟩, pmE s x h k)
def pmT (y : Pa × Int) : TR := .tup [y.1.v, (false, [.int .i64 y.2])]

def c_poMed : MFunc := ⟨92, [.cell 8 true 2, .tmp 9], .seq (.region [⟨some 4, .box 0 71 (.tmp 0), none⟩, ⟨some 5, .box 1 25 (.tmp 1), none⟩, ⟨some 6, .box 2 28 (.tmp 2), none⟩, ⟨some 7, .box 3 28 (.tmp 3), none⟩, ⟨some 8, .alloc 4 28 [.nil, .nil], none⟩, ⟨some 9, .mv (.c (.one (.t (.int .i64 0)))), none⟩]) (.seq (.seq (.region [⟨some 17, .load true 10 (.tmp 4), none⟩, ⟨some 18, .call (.c (.one (.fn 88 []))) 65 [.tmp 17], none⟩, ⟨some 10, .mv (.tmp 18), none⟩]) (.seq (.region [⟨some 19, .mv (.tmp 10), none⟩, ⟨some 20, .bin .neq (.tmp 19) (.c (.one (.t (.int .i64 0)))), none⟩]) (.cond (.tmp 20) (.seq (.region [⟨some 21, .build [.nil, .nil] [], none⟩, ⟨some 22, .mv (.tmp 10), none⟩, ⟨none, .store 2 (.tmp 8) (.tmp 21), none⟩, ⟨some 9, .mv (.tmp 22), none⟩]) .ret) .skip))) (.seq (.seq (.region [⟨some 23, .fieldA 2 (.tmp 4), none⟩, ⟨some 24, .load true 2 (.tmp 23), none⟩, ⟨some 25, .load true 2 (.tmp 5), none⟩, ⟨some 26, .load true 2 (.tmp 6), none⟩, ⟨some 27, .call (.c (.one (.fn 69 []))) 260 [.tmp 24, .tmp 25, .tmp 26], none⟩, ⟨some 11, .mv (.tmp 27), none⟩]) (.seq (.region [⟨some 28, .mv (.tmp 11), none⟩, ⟨some 29, .bin .neq (.tmp 28) (.c (.one (.t (.int .i64 0)))), none⟩]) (.cond (.tmp 29) (.seq (.region [⟨some 30, .build [.nil, .nil] [], none⟩, ⟨some 31, .mv (.tmp 11), none⟩, ⟨none, .store 2 (.tmp 8) (.tmp 30), none⟩, ⟨some 9, .mv (.tmp 31), none⟩]) .ret) .skip))) (.seq (.seq (.region [⟨some 32, .fieldA 4 (.tmp 4), none⟩, ⟨some 33, .load true 2 (.tmp 32), none⟩, ⟨some 34, .load true 2 (.tmp 5), none⟩, ⟨some 35, .load true 2 (.tmp 7), none⟩, ⟨some 36, .call (.c (.one (.fn 69 []))) 452 [.tmp 33, .tmp 34, .tmp 35], none⟩, ⟨some 12, .mv (.tmp 36), none⟩]) (.seq (.region [⟨some 37, .mv (.tmp 12), none⟩, ⟨some 38, .bin .neq (.tmp 37) (.c (.one (.t (.int .i64 0)))), none⟩]) (.cond (.tmp 38) (.seq (.region [⟨some 39, .build [.nil, .nil] [], none⟩, ⟨some 40, .mv (.tmp 12), none⟩, ⟨none, .store 2 (.tmp 8) (.tmp 39), none⟩, ⟨some 9, .mv (.tmp 40), none⟩]) .ret) .skip))) (.seq (.region [⟨some 42, .load true 10 (.tmp 4), none⟩, ⟨some 43, .call (.c (.one (.fn 66 []))) 641 [.tmp 42], none⟩, ⟨some 41, .mv (.tmp 43), none⟩, ⟨some 44, .extract (.tmp 41) 0, none⟩, ⟨some 45, .extract (.tmp 41) 1, none⟩, ⟨some 46, .extract (.tmp 41) 2, none⟩, ⟨some 47, .extract (.tmp 41) 3, none⟩, ⟨some 13, .alloc 647 25 [.nil, .nil], none⟩, ⟨some 14, .alloc 648 28 [.nil, .nil], none⟩, ⟨some 15, .alloc 649 28 [.nil, .nil], none⟩, ⟨none, .store 2 (.tmp 13) (.tmp 44), none⟩, ⟨none, .store 2 (.tmp 14) (.tmp 45), none⟩, ⟨none, .store 2 (.tmp 15) (.tmp 46), none⟩, ⟨some 16, .mv (.tmp 47), none⟩]) (.seq (.seq (.region [⟨some 48, .mv (.tmp 16), none⟩, ⟨some 49, .bin .neq (.tmp 48) (.c (.one (.t (.int .i64 0)))), none⟩]) (.cond (.tmp 49) (.seq (.region [⟨some 50, .build [.nil, .nil] [], none⟩, ⟨some 51, .mv (.tmp 16), none⟩, ⟨none, .store 2 (.tmp 8) (.tmp 50), none⟩, ⟨some 9, .mv (.tmp 51), none⟩]) .ret) .skip)) (.seq (.seq (.draw [[], [0], [], [1, 2], [], [4], [], [5, 6, 3], [3, 7, 7], [8]] [⟨some 52, .fieldA 6 (.tmp 4), none⟩, ⟨some 53, .load true 2 (.tmp 52), none⟩, ⟨some 54, .load true 2 (.tmp 6), none⟩, ⟨some 55, .call (.c (.one (.fn 90 []))) 835 [.tmp 53, .tmp 54], none⟩, ⟨some 56, .fieldA 8 (.tmp 4), none⟩, ⟨some 57, .load true 2 (.tmp 56), none⟩, ⟨some 58, .load true 2 (.tmp 7), none⟩, ⟨some 59, .call (.c (.one (.fn 90 []))) 839 [.tmp 57, .tmp 58], none⟩, ⟨some 60, .call (.c (.one (.fn 89 []))) 840 [.tmp 55, .tmp 59], none⟩, ⟨some 61, .not (.tmp 60), none⟩]) (.cond (.tmp 61) (.seq (.region [⟨some 62, .build [.nil, .nil] [], none⟩, ⟨none, .store 2 (.tmp 8) (.tmp 62), none⟩, ⟨some 9, .mv (.c (.one (.t (.int .i64 11)))), none⟩]) .ret) .skip)) (.seq (.draw [[], [0], [1], [], [3], [], [5], [4, 6], [], [8], [], [10], [9, 11], [2, 7, 12], [], [14], [15], [], [17], [], [19], [18, 20], [], [22], [], [24], [23, 25], [16, 21, 26, 13], [13, 27], [28, 27, 0, 1, 2, 3, 4, 5, 6, 7, 8, 9, 10, 11, 12, 13, 14, 15, 16, 17, 18, 19, 20, 21, 22, 23, 24, 25, 26, 27, 28], [29, 0, 1, 2, 3, 4, 5, 6, 7, 8, 9, 10, 11, 12, 13, 14, 15, 16, 17, 18, 19, 20, 21, 22, 23, 24, 25, 26, 27, 28, 29]] [⟨some 63, .fieldA 0 (.tmp 13), none⟩, ⟨some 64, .load false 1 (.tmp 63), none⟩, ⟨some 65, .len (.tmp 64), none⟩, ⟨some 66, .fieldA 0 (.tmp 14), none⟩, ⟨some 67, .load false 1 (.tmp 66), none⟩, ⟨some 68, .fieldA 0 (.tmp 15), none⟩, ⟨some 69, .load false 1 (.tmp 68), none⟩, ⟨some 70, .mkrow 967 22 1 2 [.nil, .nil] [(0, (1, .tmp 67)), (1, (1, .tmp 69))], none⟩, ⟨some 71, .fieldA 0 (.tmp 6), none⟩, ⟨some 72, .load false 1 (.tmp 71), none⟩, ⟨some 73, .fieldA 0 (.tmp 7), none⟩, ⟨some 74, .load false 1 (.tmp 73), none⟩, ⟨some 75, .mkrow 972 22 1 2 [.nil, .nil] [(0, (1, .tmp 72)), (1, (1, .tmp 74))], none⟩, ⟨some 76, .call (.c (.one (.fn 91 []))) 973 [.tmp 65, .tmp 70, .tmp 75], none⟩, ⟨some 77, .fieldA 1 (.tmp 13), none⟩, ⟨some 78, .load false 1 (.tmp 77), none⟩, ⟨some 79, .len (.tmp 78), none⟩, ⟨some 80, .fieldA 1 (.tmp 14), none⟩, ⟨some 81, .load false 1 (.tmp 80), none⟩, ⟨some 82, .fieldA 1 (.tmp 15), none⟩, ⟨some 83, .load false 1 (.tmp 82), none⟩, ⟨some 84, .mkrow 981 22 1 2 [.nil, .nil] [(0, (1, .tmp 81)), (1, (1, .tmp 83))], none⟩, ⟨some 85, .fieldA 1 (.tmp 6), none⟩, ⟨some 86, .load false 1 (.tmp 85), none⟩, ⟨some 87, .fieldA 1 (.tmp 7), none⟩, ⟨some 88, .load false 1 (.tmp 87), none⟩, ⟨some 89, .mkrow 986 22 1 2 [.nil, .nil] [(0, (1, .tmp 86)), (1, (1, .tmp 88))], none⟩, ⟨some 90, .call (.c (.one (.fn 91 []))) 987 [.tmp 79, .tmp 84, .tmp 89], none⟩, ⟨some 91, .build [.nil, .nil] [(0, (1, .tmp 76)), (1, (1, .tmp 90))], none⟩, ⟨none, .store 2 (.tmp 8) (.tmp 91), none⟩, ⟨some 9, .mv (.c (.one (.t (.int .i64 0)))), none⟩]) .ret)))))))⟩
theorem k_poMed : cFn Try.prog Try.f65 = some c_poMed := by kernel_rfl
set_option maxHeartbeats 4000000 in
theorem poMed_ok (s : Sp) (x : Gr) (h k : Pa) (ts : TinySp s) (tx : tinyG x) (th : tinyP h) (tk : tinyP k) : CallOK Try.prog 65 [s.v, x.v, h.v, k.v] (pmT (pmR s x h k)) := by
  refine callOK_W (callS_W (by kernel_rfl) Try.func65 k_poMed (callable_of Try.func65 (by kernel_rfl)) (by simp [c_poMed]) ?_)
  simp [c_poMed, Sp.v, Sp.cs]
  refine callS_tree (pspan_ok s ts) ?_ ?_ ?_
  · rfl
  · rfl
  by_cases h1 : spErr s = 0
  case neg =>
    have e : pmR s x h k = (⟨[], []⟩, spErr s) := by simp [pmR, pmE, h1]
    simp [h1, pmT, e]
  have ok := spErr_ok h1
  simp [h1]
  refine callS_tree (mvalid_ok s.B x h ts.B tx th) ?_ ?_ ?_
  · rfl
  · rfl
  by_cases h2 : morErr s.B x h = 0
  case neg =>
    have e : pmR s x h k = (⟨[], []⟩, morErr s.B x h) := by simp [pmR, pmE, h1, h2]
    simp [h2, pmT, e]
  simp [h2]
  refine callS_tree (mvalid_ok s.C x k ts.C tx tk) ?_ ?_ ?_
  · rfl
  · rfl
  by_cases h3 : morErr s.C x k = 0
  case neg =>
    have e : pmR s x h k = (⟨[], []⟩, morErr s.C x k) := by simp [pmR, pmE, h1, h2, h3]
    simp [h3, pmT, e]
  have m1 := mor_ok h2
  have m2 := mor_ok h3
  have l1 := m1.ln
  have l2 := m2.ln
  have l3 := m1.le
  have l4 := m2.le
  simp [h3]
  refine callS_tree (pglue_ok s ts ok) ?_ ?_ ?_
  · rfl
  · rfl
  by_cases h4 : unErr s.B s.C = 0
  case neg =>
    have e : pmR s x h k = (⟨[], []⟩, unErr s.B s.C) := by simp [pmR, pmE, h1, h2, h3, h4]
    have e2 : gluR s = (⟨[], []⟩, ⟨[], []⟩, ⟨[], []⟩, unErr s.B s.C) := by simp [gluR, h4]
    simp [h4, gluT, e2, pmT, e]
  have e2 : gluR s = (poG s, poI s, poJ s, 0) := by simp [gluR, h4]
  obtain ⟨g1, g2⟩ := poG_few h4
  have i1 := poI_len (s := s)
  have j1 := poJ_len (s := s)
  have tn : tiny (poG s).nodes.length := by simp only [tiny]; omega
  have te : tiny (poG s).edges.length := by simp only [tiny]; omega
  simp [dw0, dw1, dw2, dw3, gluT, e2]
  refine dCall_ok (pthen_ok s.F h ts.F (ok.F.fits m1)) ?_ ?_ ?_
  · rfl
  · rfl
  simp [dw0, dw1, dw2, dw3]
  refine dCall_ok (pthen_ok s.G k ts.G (ok.G.fits m2)) ?_ ?_ ?_
  · rfl
  · rfl
  simp [dw0, dw1, dw2, dw3]
  refine dCall_ok (msame_ok (thenP s.F h) (thenP s.G k) (thenP_tiny ts.F) (thenP_tiny ts.G)) ?_ ?_ ?_
  · rfl
  · rfl
  cases hs : sameP (thenP s.F h) (thenP s.G k)
  · have e : pmR s x h k = (⟨[], []⟩, 11) := by simp [pmR, pmE, h1, h2, h3, h4, hs]
    simp [dw0, dw1, dw2, dw3, pmT, e]
    rfl
  have e : pmR s x h k = (pmC s h k, 0) := by simp [pmR, pmE, h1, h2, h3, h4, hs]
  simp [dw0, dw1, dw2, dw3, pmT, e]
  refine ⟨rfl, ?_⟩
  refine dCall_ok (filled_ok (poG s).nodes.length (poI s).nodes (poJ s).nodes h.nodes k.nodes tn (poI_nin ok) (poJ_nin ok) (by omega) (by omega) (by have := ts.B.1; simp only [tiny] at *; omega) (by have := ts.C.1; simp only [tiny] at *; omega)) ?_ ?_ ?_
  · rfl
  · rfl
  simp [dw0, dw1, dw2, dw3]
  refine dCall_ok (filled_ok (poG s).edges.length (poI s).edges (poJ s).edges h.edges k.edges te (poI_ein ok) (poJ_ein ok) (by omega) (by omega) (by have := ts.B.2; simp only [tiny] at *; omega) (by have := ts.C.2; simp only [tiny] at *; omega)) ?_ ?_ ?_
  · rfl
  · rfl
  simp [dw0, dw1, dw2, dw3, pmC]
  rfl

theorem pmE_ok {s : Sp} {x : Gr} {h k : Pa} (e : pmE s x h k = 0) : spErr s = 0 ∧ morErr s.B x h = 0 ∧ morErr s.C x k = 0 ∧ unErr s.B s.C = 0 ∧ sameP (thenP s.F h) (thenP s.G k) = true := by
  unfold pmE at e
  split at e
  · split at e
    · split at e
      · split at e
        · split at e
          · exact ⟨by assumption, by assumption, by assumption, by assumption, by assumption⟩
          · cases e
        · exact absurd e (by assumption)
      · exact absurd e (by assumption)
    · exact absurd e (by assumption)
  · exact absurd e (by assumption)
theorem poG_tiny {s : Sp} (h : unErr s.B s.C = 0) : tinyG (poG s) := by
  obtain ⟨h1, h2⟩ := poG_few h
  exact ⟨by simp only [tiny]; omega, by simp only [tiny]; omega⟩
theorem pmC_tiny {s : Sp} {h k : Pa} (e : unErr s.B s.C = 0) : tinyP (pmC s h k) := ⟨by simp only [pmC, wrL_len]; exact (poG_tiny e).1, by simp only [pmC, wrL_len]; exact (poG_tiny e).2⟩

/-- Is a cocone a pushout? -/
def poChk (s : Sp) (d : Gr) (h k : Pa) : Bool := decide (pmE s d h k = 0) && (injB (poG s) d (pmC s h k) && surjB (poG s) d (pmC s h k))

def c_poCheck : MFunc := ⟨45, [.tmp 8], .seq (.region [⟨some 4, .box 0 71 (.tmp 0), none⟩, ⟨some 5, .box 1 25 (.tmp 1), none⟩, ⟨some 6, .box 2 28 (.tmp 2), none⟩, ⟨some 7, .box 3 28 (.tmp 3), none⟩, ⟨some 8, .mv (.c (.one (.t (.bool false)))), none⟩]) (.seq (.region [⟨some 15, .load true 10 (.tmp 4), none⟩, ⟨some 16, .load true 2 (.tmp 5), none⟩, ⟨some 17, .load true 2 (.tmp 6), none⟩, ⟨some 18, .load true 2 (.tmp 7), none⟩, ⟨some 19, .call (.c (.one (.fn 65 []))) 68 [.tmp 15, .tmp 16, .tmp 17, .tmp 18], none⟩, ⟨some 14, .mv (.tmp 19), none⟩, ⟨some 20, .extract (.tmp 14) 0, none⟩, ⟨some 21, .extract (.tmp 14) 1, none⟩, ⟨some 9, .alloc 72 28 [.nil, .nil], none⟩, ⟨none, .store 2 (.tmp 9) (.tmp 20), none⟩, ⟨some 10, .mv (.tmp 21), none⟩]) (.seq (.seq (.region [⟨some 22, .mv (.tmp 10), none⟩, ⟨some 23, .bin .neq (.tmp 22) (.c (.one (.t (.int .i64 0)))), none⟩]) (.cond (.tmp 23) (.seq (.region [⟨some 8, .mv (.c (.one (.t (.bool false)))), none⟩]) .ret) .skip)) (.seq (.region [⟨some 25, .load true 10 (.tmp 4), none⟩, ⟨some 26, .call (.c (.one (.fn 66 []))) 257 [.tmp 25], none⟩, ⟨some 24, .mv (.tmp 26), none⟩, ⟨some 27, .extract (.tmp 24) 0, none⟩, ⟨some 28, .extract (.tmp 24) 1, none⟩, ⟨some 29, .extract (.tmp 24) 2, none⟩, ⟨some 30, .extract (.tmp 24) 3, none⟩, ⟨some 11, .alloc 263 25 [.nil, .nil], none⟩, ⟨some 12, .alloc 264 28 [.nil, .nil], none⟩, ⟨some 13, .alloc 265 28 [.nil, .nil], none⟩, ⟨none, .store 2 (.tmp 11) (.tmp 27), none⟩, ⟨none, .store 2 (.tmp 12) (.tmp 28), none⟩, ⟨none, .store 2 (.tmp 13) (.tmp 29), none⟩, ⟨some 10, .mv (.tmp 30), none⟩]) (.seq (.region [⟨some 31, .mv (.tmp 10), none⟩, ⟨some 32, .bin .eql (.tmp 31) (.c (.one (.t (.int .i64 0)))), none⟩, ⟨some 33, .mv (.tmp 32), none⟩, ⟨some 34, .load true 2 (.tmp 11), some (33, true)⟩, ⟨some 35, .load true 2 (.tmp 5), some (33, true)⟩, ⟨some 36, .load true 2 (.tmp 9), some (33, true)⟩, ⟨some 37, .call (.c (.one (.fn 67 []))) 326 [.tmp 34, .tmp 35, .tmp 36], some (33, true)⟩, ⟨some 38, .pick (.tmp 33) (.tmp 37) (.c (.one (.t (.bool false)))), none⟩, ⟨some 39, .mv (.tmp 38), none⟩, ⟨some 40, .load true 2 (.tmp 11), some (39, true)⟩, ⟨some 41, .load true 2 (.tmp 5), some (39, true)⟩, ⟨some 42, .load true 2 (.tmp 9), some (39, true)⟩, ⟨some 43, .call (.c (.one (.fn 68 []))) 332 [.tmp 40, .tmp 41, .tmp 42], some (39, true)⟩, ⟨some 44, .pick (.tmp 39) (.tmp 43) (.c (.one (.t (.bool false)))), none⟩, ⟨some 8, .mv (.tmp 44), none⟩]) .ret))))⟩
theorem k_poCheck : cFn Try.prog Try.f38 = some c_poCheck := by kernel_rfl
theorem poCheck_ok (s : Sp) (x : Gr) (h k : Pa) (ts : TinySp s) (tx : tinyG x) (th : tinyP h) (tk : tinyP k) : CallOK Try.prog 38 [s.v, x.v, h.v, k.v] (.sv (false, [.bool (poChk s x h k)])) := by
  refine callOK_W (callS_W (by kernel_rfl) Try.func38 k_poCheck (callable_of Try.func38 (by kernel_rfl)) (by simp [c_poCheck]) ?_)
  simp [c_poCheck, Sp.v, Sp.cs]
  refine callS_tree (poMed_ok s x h k ts tx th tk) ?_ ?_ ?_
  · rfl
  · rfl
  by_cases h1 : pmE s x h k = 0
  case neg =>
    have e : pmR s x h k = (⟨[], []⟩, pmE s x h k) := by simp [pmR, h1]
    simp [pmT, e, h1, poChk]
  have e : pmR s x h k = (pmC s h k, 0) := by simp [pmR, h1]
  obtain ⟨q1, q2, q3, q4, q5⟩ := pmE_ok h1
  have e2 : gluR s = (poG s, poI s, poJ s, 0) := by simp [gluR, q4]
  simp [pmT, e, h1]
  refine callS_tree (pglue_ok s ts (spErr_ok q1)) ?_ ?_ ?_
  · rfl
  · rfl
  simp [gluT, e2]
  refine callS_tree (injX_ok (poG s) x (pmC s h k) (poG_tiny q4) tx (pmC_tiny q4)) ?_ ?_ ?_
  · rfl
  · rfl
  cases h3 : injB (poG s) x (pmC s h k)
  · simp [poChk, h3]
  simp
  refine callS_tree (surjX_ok (poG s) x (pmC s h k) (poG_tiny q4) tx (pmC_tiny q4)) ?_ ?_ ?_
  · rfl
  · rfl
  simp [poChk, h1, h3]
end Go.Proofs.Ythapbbpdcjmmfaa

/- Contract: the kind of a square. -/
namespace Go.Proofs.Ythapbbpdcjmmfaa
open Abs
set_option linter.unusedSimpArgs false
set_option linter.unusedVariables false

def downS (s : Sq) : Sp := ⟨s.A, s.B, s.C, s.F, s.G⟩
def upS (s : Sq) : Co := ⟨s.B, s.C, s.D, s.H, s.K⟩
theorem TinySq.down {s : Sq} (h : TinySq s) : TinySp (downS s) := ⟨h.A, h.B, h.C, h.F, h.G⟩
theorem TinySq.up {s : Sq} (h : TinySq s) : TinyCo (upS s) := ⟨h.B, h.C, h.D, h.H, h.K⟩
def kindN (s : Sq) : Int := (if poChk (downS s) s.D s.H s.K = true then 1 else 0) + (if pbChk (upS s) s.A s.F s.G = true then 2 else 0)
/-- The kind of a square, or an error. -/
def kindR (s : Sq) : Int × Int :=
  if sqErr s = 0 then if commB s = true then if poErr (downS s) = 0 then if pbErr (upS s) = 0 then (kindN s, 0) else (0, pbErr (upS s)) else (0, poErr (downS s)) else (0, 0) else (0, sqErr s)
def kindT (x : Int × Int) : TR := .tup [(false, [.int .i64 x.1]), (false, [.int .i64 x.2])]

end Go.Proofs.Ythapbbpdcjmmfaa

/- Contracts: the reference's generated partitions and unions of graphs. -/
namespace Go.Proofs.Ythapbbpdcjmmfaa
open Abs
set_option linter.unusedSimpArgs false
set_option linter.unusedVariables false
attribute [local simp] rn0 rn1 rn2 rn3 rn4 rn5 rn6 rn7 evOp nests Arg.ev St.val St.set St.new sliceOf binInt2 binInt AV.cells rdAt St.live retOf resOf resAll treeOf treeCell treeCells treeTups untree frameOf TV.av TR.av ints edgs prs fillV splice intsOf trees V1.tree bx Gr.v Pa.v opRd opWr opNew opNewR opArgs argsRd argRd Arg.rd AV.refs V1.refs refsL dstL


/-- Pairs out of two lists. -/
def zpK (f g : List Int) (k : Nat) : List (Int × Int) := (List.range k).map fun i => (nth f i, nth g i)
theorem zpK_succ {f g : List Int} {k : Nat} : zpK f g (k + 1) = zpK f g k ++ [(nth f k, nth g k)] := by simp [zpK, List.range_succ]
theorem zpK_len {f g : List Int} {k : Nat} : (zpK f g k).length = k := by simp [zpK]
theorem thru_nth' {a b : List Int} {i : Nat} (h : i < a.length) : nth (thru a b) i = nth b (nth a i).toNat := by
  rw [nth_eq (by rw [thru_len]; exact h), nth_eq h]
  simp [thru]
theorem zpK_thru {a l b r : List Int} {k : Nat} (h1 : k ≤ a.length) (h2 : k ≤ b.length) : zpK (thru a l) (thru b r) k = pgK a b l r k := by
  simp only [zpK, pgK]
  apply List.map_congr_left
  intro i hi
  simp only [List.mem_range] at hi
  rw [thru_nth' (by omega), thru_nth' (by omega)]



theorem copied5S (g : Gr) (h : tinyG g) {ob : Nm → Option Ob} {cnt : Nat → Nat} {R : AV → (Nm → Option Ob) → (Nat → Nat) → Prop}
    (hR : ∀ v1 v2 ob' cnt', outL [67] 3 1 g.nodes.length (g.nodes.map (.int .i64)) ob' (.one v1) → outL [71] 73 3 g.edges.length (edL g.edges) ob' (.one v2) →
      (∀ a k, a ≠ 0 → a ≠ 1 → a ≠ 67 → a ≠ 71 → ob' (a, k) = ob (a, k)) → (∀ a k, k < cnt a → ob' (a, k) = ob (a, k)) → (∀ a, a ≠ 0 → a ≠ 1 → a ≠ 67 → a ≠ 71 → cnt' a = cnt a) → R (.agg [v1, v2]) ob' cnt') :
    CallS Try.prog 78 [g.v.av] ob cnt R := by
  refine callS_W (by kernel_rfl) Try.func78 k_copied5 (callable_of Try.func78 (by kernel_rfl)) (by simp [c_copied5]) ?_
  have h1 := h.1
  have h2 := h.2
  simp only [tiny] at h1 h2
  simp [c_copied5, dw0, dw1, dw2, dw3]
  refine kApp_nil (ts := g.nodes.map (.int .i64)) (by simp) (by simp) (by omega) (by omega) ?_
  by_cases e1 : g.nodes.length = 0 <;> by_cases e2 : g.edges.length = 0
  · have n1 : g.nodes = [] := List.eq_nil_of_length_eq_zero e1
    have n2 : g.edges = [] := List.eq_nil_of_length_eq_zero e2
    simp [dw0, dw1, dw2, dw3, rowEff, n1, n2]
    refine kApp_nil (ts := []) rfl rfl (by omega) (by omega) ?_
    simp [dw0, dw1, dw2, dw3, rowEff, n1, n2, edL]
    refine ⟨rfl, hR _ _ _ _ ?_ ?_ ?_ ?_ ?_⟩
    · exact .inl ⟨by simp [n1], by simp [n1], rfl⟩
    · exact .inl ⟨by simp [n2], by simp [n2, edL], rfl⟩
    all_goals
      first
      | (intro a k q0 q1 q2 q3; simp [upd_app, q0, q1, q2, q3]; done)
      | (intro a q0 q1 q2 q3; simp [upd_app, q0, q1, q2, q3]; done)
      | (intro a k hk
         have w0 : ¬ (a = 0 ∧ k = cnt 0) := fun q => by rw [q.1, q.2] at hk; exact Nat.lt_irrefl _ hk
         have w1 : ¬ (a = 1 ∧ k = cnt 1) := fun q => by rw [q.1, q.2] at hk; exact Nat.lt_irrefl _ hk
         have w2 : ¬ (a = 67 ∧ k = cnt 67) := fun q => by rw [q.1, q.2] at hk; exact Nat.lt_irrefl _ hk
         have w3 : ¬ (a = 71 ∧ k = cnt 71) := fun q => by rw [q.1, q.2] at hk; exact Nat.lt_irrefl _ hk
         simp [upd_app, w0, w1, w2, w3]; done)
  · have n1 : g.nodes = [] := List.eq_nil_of_length_eq_zero e1
    simp [dw0, dw1, dw2, dw3, rowEff, n1]
    refine kApp_nil (ts := edL g.edges) (by simp) (len_edL _) (by omega) (by omega) ?_
    simp [dw0, dw1, dw2, dw3, rowEff, e2, untreeT]
    refine ⟨rfl, hR _ _ _ _ ?_ ?_ ?_ ?_ ?_⟩
    · exact .inl ⟨by simp [n1], by simp [n1], rfl⟩
    · exact .inr ⟨by omega, 71, by simp, cnt 71, rfl, by simp⟩
    all_goals
      first
      | (intro a k q0 q1 q2 q3; simp [upd_app, q0, q1, q2, q3]; done)
      | (intro a q0 q1 q2 q3; simp [upd_app, q0, q1, q2, q3]; done)
      | (intro a k hk
         have w0 : ¬ (a = 0 ∧ k = cnt 0) := fun q => by rw [q.1, q.2] at hk; exact Nat.lt_irrefl _ hk
         have w1 : ¬ (a = 1 ∧ k = cnt 1) := fun q => by rw [q.1, q.2] at hk; exact Nat.lt_irrefl _ hk
         have w2 : ¬ (a = 67 ∧ k = cnt 67) := fun q => by rw [q.1, q.2] at hk; exact Nat.lt_irrefl _ hk
         have w3 : ¬ (a = 71 ∧ k = cnt 71) := fun q => by rw [q.1, q.2] at hk; exact Nat.lt_irrefl _ hk
         simp [upd_app, w0, w1, w2, w3]; done)
  · have n2 : g.edges = [] := List.eq_nil_of_length_eq_zero e2
    have n1 : ¬ g.nodes = [] := fun h => e1 (by rw [h]; rfl)
    simp [dw0, dw1, dw2, dw3, rowEff, n1, n2]
    refine kApp_nil (ts := []) rfl rfl (by omega) (by omega) ?_
    simp [dw0, dw1, dw2, dw3, rowEff, n1, n2, edL, untreeT, untreeI]
    refine ⟨rfl, hR _ _ _ _ ?_ ?_ ?_ ?_ ?_⟩
    · exact .inr ⟨by omega, 67, by simp, cnt 67, rfl, by simp⟩
    · exact .inl ⟨by simp [n2], by simp [n2, edL], rfl⟩
    all_goals
      first
      | (intro a k q0 q1 q2 q3; simp [upd_app, q0, q1, q2, q3]; done)
      | (intro a q0 q1 q2 q3; simp [upd_app, q0, q1, q2, q3]; done)
      | (intro a k hk
         have w0 : ¬ (a = 0 ∧ k = cnt 0) := fun q => by rw [q.1, q.2] at hk; exact Nat.lt_irrefl _ hk
         have w1 : ¬ (a = 1 ∧ k = cnt 1) := fun q => by rw [q.1, q.2] at hk; exact Nat.lt_irrefl _ hk
         have w2 : ¬ (a = 67 ∧ k = cnt 67) := fun q => by rw [q.1, q.2] at hk; exact Nat.lt_irrefl _ hk
         have w3 : ¬ (a = 71 ∧ k = cnt 71) := fun q => by rw [q.1, q.2] at hk; exact Nat.lt_irrefl _ hk
         simp [upd_app, w0, w1, w2, w3]; done)
  · have n1 : ¬ g.nodes = [] := fun h => e1 (by rw [h]; rfl)
    simp [dw0, dw1, dw2, dw3, rowEff, n1]
    refine kApp_nil (ts := edL g.edges) (by simp) (len_edL _) (by omega) (by omega) ?_
    simp [dw0, dw1, dw2, dw3, rowEff, e2, untreeT, untreeI]
    refine ⟨rfl, hR _ _ _ _ ?_ ?_ ?_ ?_ ?_⟩
    · exact .inr ⟨by omega, 67, by simp, cnt 67, rfl, by simp⟩
    · exact .inr ⟨by omega, 71, by simp, cnt 71, rfl, by simp⟩
    all_goals
      first
      | (intro a k q0 q1 q2 q3; simp [upd_app, q0, q1, q2, q3]; done)
      | (intro a q0 q1 q2 q3; simp [upd_app, q0, q1, q2, q3]; done)
      | (intro a k hk
         have w0 : ¬ (a = 0 ∧ k = cnt 0) := fun q => by rw [q.1, q.2] at hk; exact Nat.lt_irrefl _ hk
         have w1 : ¬ (a = 1 ∧ k = cnt 1) := fun q => by rw [q.1, q.2] at hk; exact Nat.lt_irrefl _ hk
         have w2 : ¬ (a = 67 ∧ k = cnt 67) := fun q => by rw [q.1, q.2] at hk; exact Nat.lt_irrefl _ hk
         have w3 : ¬ (a = 71 ∧ k = cnt 71) := fun q => by rw [q.1, q.2] at hk; exact Nat.lt_irrefl _ hk
         simp [upd_app, w0, w1, w2, w3]; done)

end Go.Proofs.Ythapbbpdcjmmfaa

/- Contracts: numbers out of bytes; the graph of a description. -/
namespace Go.Proofs.Ythapbbpdcjmmfaa
open Abs
set_option linter.unusedSimpArgs false
set_option linter.unusedVariables false
attribute [local simp] rn0 rn1 rn2 rn3 rn4 rn5 rn6 rn7 evOp nests Arg.ev St.val St.set St.new sliceOf binInt2 binInt AV.cells rdAt St.live retOf resOf resAll treeOf treeCell treeCells treeTups untree frameOf TV.av TR.av ints edgs prs fillV splice intsOf trees V1.tree bx Gr.v Pa.v opRd opWr opNew opNewR opArgs argsRd argRd Arg.rd AV.refs V1.refs refsL dstL

theorem nat_rem {a b : Nat} : ((a : Int)).tmod (b : Int) = ((a % b : Nat) : Int) := (Int.ofNat_tmod a b).symm
theorem nat_quo {a b : Nat} : ((a : Int)).tdiv (b : Int) = ((a / b : Nat) : Int) := (Int.ofNat_tdiv a b).symm
theorem rem2 {a : Nat} : ((a : Int)).tmod 2 = ((a % 2 : Nat) : Int) := nat_rem
theorem rem3 {a : Nat} : ((a : Int)).tmod 3 = ((a % 3 : Nat) : Int) := nat_rem
theorem quo2 {a : Nat} : ((a : Int)).tdiv 2 = ((a / 2 : Nat) : Int) := nat_quo
theorem quo16 {a : Nat} : ((a : Int)).tdiv 16 = ((a / 16 : Nat) : Int) := nat_quo
theorem wrap8 {a : Nat} (h : a < 256) : IntKind.u8.wrap (a : Int) = a := by
  simp [IntKind.wrap, IntKind.bits, IntKind.signed]
  omega

/-- The numbers that bytes mean, at least one. -/
def numsL (l : List Nat) : List Int := if l.length = 0 then [0] else l.map fun (x : Nat) => (x : Int)
def numK (l : List Nat) (k : Nat) : List Int := (l.take k).map fun (x : Nat) => (x : Int)
theorem numK_succ {l : List Nat} {k : Nat} (h : k < l.length) : numK l (k + 1) = numK l k ++ [(byth l k : Int)] := by
  rw [numK, List.take_succ_eq_append_getElem h, List.map_append, byth_eq h]
  rfl
theorem numK_len {l : List Nat} {k : Nat} (h : k ≤ l.length) : (numK l k).length = k := by simp [numK]; omega
theorem numsL_nat {l : List Nat} : (numsL l).length ≠ 0 := by
  unfold numsL
  split
  · simp
  · rename_i h
    rw [List.length_map]
    exact h

def c_numbers06 : MFunc := ⟨25, [.tmp 2], .seq (.region [⟨some 2, .mv (.c (.one .nil)), none⟩]) (.seq (.region [⟨some 5, .mkrow 64 3 1 0 [] [], none⟩, ⟨some 3, .mv (.tmp 5), none⟩]) (.seq (.seq (.region [⟨some 4, .mv (.c (.one (.t (.int .i64 0)))), none⟩]) (.block 0 (.loop (.seq (.seq (.region [⟨some 6, .mv (.tmp 4), none⟩, ⟨some 7, .mv (.tmp 0), none⟩, ⟨some 8, .len (.tmp 7), none⟩, ⟨some 9, .bin .lss (.tmp 6) (.tmp 8), none⟩]) (.cond (.tmp 9) .skip (.exit 0))) (.seq (.block 1 (.region [⟨some 12, .mv (.tmp 3), none⟩, ⟨some 13, .mv (.tmp 0), none⟩, ⟨some 14, .mv (.tmp 4), none⟩, ⟨some 15, .idxA 1 (.tmp 13) (.tmp 14), none⟩, ⟨some 16, .load false 1 (.tmp 15), none⟩, ⟨some 17, .conv .i64 (.tmp 16), none⟩, ⟨some 18, .mkrow 326 3 1 1 [.t (.int .i64 0)] [(0, (1, .tmp 17))], none⟩, ⟨some 19, .append 327 3 1 8 (.tmp 12) (.tmp 18), none⟩, ⟨some 3, .mv (.tmp 19), none⟩])) (.region [⟨some 10, .mv (.tmp 4), none⟩, ⟨some 11, .bin .add (.tmp 10) (.c (.one (.t (.int .i64 1)))), none⟩, ⟨some 4, .mv (.tmp 11), none⟩])))))) (.seq (.seq (.region [⟨some 20, .mv (.tmp 3), none⟩, ⟨some 21, .len (.tmp 20), none⟩, ⟨some 22, .bin .eql (.tmp 21) (.c (.one (.t (.int .i64 0)))), none⟩]) (.cond (.tmp 22) (.region [⟨some 23, .mkrow 448 3 1 1 [.t (.int .i64 0)] [(0, (1, .c (.one (.t (.int .i64 0)))))], none⟩, ⟨some 3, .mv (.tmp 23), none⟩]) .skip)) (.seq (.region [⟨some 24, .mv (.tmp 3), none⟩, ⟨some 2, .mv (.tmp 24), none⟩]) .ret))))⟩
theorem k_numbers06 : cFn Try.prog Try.f110 = some c_numbers06 := by kernel_rfl
theorem numbers06_ok (l : List Nat) (hl : l.length ≤ 1048576) (hs : ∀ x ∈ l, x < 256) : CallOK Try.prog 110 [byV l] (.sv (false, [ints (numsL l)])) := by
  refine callOK_W (callS_W (by kernel_rfl) Try.func110 k_numbers06 (callable_of Try.func110 (by kernel_rfl)) (by simp [c_numbers06]) ?_)
  simp [c_numbers06, byV, bys, len_byL]
  refine loopW_count 4 l.length (fun k S => S.fr 0 = .one (.t (bys l)) ∧ S.cnt 448 = 0 ∧ ∃ u, S.fr 3 = .one u ∧ outR 327 3 1 (numK l k).length ((numK l k).map (.int .i64)) S.ob (.one u)) (by omega) ?_ ?_ ?_
  · simp [bys, numK, outR_nil]
  · rintro k S hlt hw hc ⟨f0, n0, u, f3, hU⟩
    have q1 := numK_len (l := l) (k := k) (by omega)
    have w0 : IntKind.i64.wrap (byth l k : Int) = byth l k := by
      have := byth_small hs k
      rw [wrap64_id] <;> omega
    simp [f0, f3, hc, hlt, bys, len_byL, drop_byL hlt, w0]
    refine kApp_grow (ts := [.int .i64 (byth l k : Nat)]) rfl (hU.keep fun g => by simp) (by omega) rfl (by omega) (by omega) fun E3 hE3 hob3 hcnt3 => ?_
    obtain ⟨w, hu3⟩ := hE3.one
    rw [hu3] at hE3
    simp [f0, f3, hc, hw, hob3, hcnt3, hu3, bys, n0, numK_succ hlt]
    simpa using hE3
  · rintro S hc ⟨f0, n0, u, f3, hU⟩
    have q1 := numK_len (l := l) (k := l.length) (by omega)
    rcases hU with ⟨m1, m2, m3⟩ | ⟨m1, g1, m3, m4⟩
    · cases m3
      have z : l.length = 0 := by omega
      simp [f0, f3, hc, bys, len_byL, n0, numsL, z]
    · cases m3
      have z : ¬ l.length = 0 := by omega
      have e : numK l l.length = numsL l := by rw [numsL, if_neg z, numK, List.take_length]
      rw [e] at m4 q1
      have z2 : ¬ (numsL l).length = 0 := by omega
      have z3 : ¬ (numK l l.length).length = 0 := by rw [e]; exact z2
      simp [f0, f3, hc, bys, len_byL, n0, m4, z2, e]
      exact untreeI _

/-! ### Graphs of descriptions -/
def mdN (d : Dr) (k : Nat) : List Int := (List.range k).map fun i => ((byth d.nodes i % 3 : Nat) : Int)
def mdn (d : Dr) : Nat := min d.nodes.length 8
def mdX (d : Dr) (i : Nat) : Ed := ⟨((t3th d.edges i).a % 2 : Nat), ((t3th d.edges i).b % mdn d : Nat), ((t3th d.edges i).c % mdn d : Nat)⟩
def mdE (d : Dr) (k : Nat) : List Ed := (List.range k).map (mdX d)
def mde (d : Dr) : Nat := if mdn d = 0 then 0 else min d.edges.length 10
def mdG (d : Dr) : Gr := ⟨mdN d (mdn d), mdE d (mde d)⟩
theorem mdN_len {d : Dr} {k : Nat} : (mdN d k).length = k := by simp [mdN]
theorem mdE_len {d : Dr} {k : Nat} : (mdE d k).length = k := by simp [mdE]
theorem mdN_succ {d : Dr} {k : Nat} : mdN d (k + 1) = mdN d k ++ [((byth d.nodes k % 3 : Nat) : Int)] := by simp [mdN, List.range_succ]
theorem mdE_succ {d : Dr} {k : Nat} : mdE d (k + 1) = mdE d k ++ [mdX d k] := by simp [mdE, List.range_succ]

def c_made05 : MFunc := ⟨81, [.cell 2 true 2], .seq (.region [⟨some 1, .box 0 41 (.tmp 0), none⟩, ⟨some 2, .alloc 1 25 [.nil, .nil], none⟩]) (.seq (.region [⟨some 3, .alloc 64 25 [.nil, .nil], none⟩]) (.seq (.seq (.region [⟨some 4, .mv (.c (.one (.t (.int .i64 0)))), none⟩]) (.block 0 (.loop (.seq (.seq (.region [⟨some 7, .mv (.tmp 4), none⟩, ⟨some 8, .fieldA 0 (.tmp 1), none⟩, ⟨some 9, .load false 1 (.tmp 8), none⟩, ⟨some 10, .len (.tmp 9), none⟩, ⟨some 11, .bin .lss (.tmp 7) (.tmp 10), none⟩, ⟨some 12, .mv (.tmp 11), none⟩, ⟨some 13, .mv (.tmp 4), some (12, true)⟩, ⟨some 14, .bin .lss (.tmp 13) (.c (.one (.t (.int .i64 8)))), some (12, true)⟩, ⟨some 15, .pick (.tmp 12) (.tmp 14) (.c (.one (.t (.bool false)))), none⟩]) (.cond (.tmp 15) .skip (.exit 0))) (.seq (.block 1 (.draw [[], [0], [], [2], [], [3, 4], [5], [6], [7], [8], [1, 9], [0, 1, 2, 3, 4, 5, 6, 7, 8, 9, 10], [11, 10, 10, 0, 1, 2, 3, 4, 5, 6, 7, 8, 9, 10]] [⟨some 18, .fieldA 0 (.tmp 3), none⟩, ⟨some 19, .load false 1 (.tmp 18), none⟩, ⟨some 20, .fieldA 0 (.tmp 1), none⟩, ⟨some 21, .load false 1 (.tmp 20), none⟩, ⟨some 22, .mv (.tmp 4), none⟩, ⟨some 23, .idxA 1 (.tmp 21) (.tmp 22), none⟩, ⟨some 24, .load false 1 (.tmp 23), none⟩, ⟨some 25, .bin .rem (.tmp 24) (.c (.one (.t (.int .u8 3)))), none⟩, ⟨some 26, .conv .i64 (.tmp 25), none⟩, ⟨some 27, .mkrow 329 3 1 1 [.t (.int .i64 0)] [(0, (1, .tmp 26))], none⟩, ⟨some 28, .append 330 3 1 8 (.tmp 19) (.tmp 27), none⟩, ⟨some 29, .fieldA 0 (.tmp 3), none⟩, ⟨none, .store 1 (.tmp 29) (.tmp 28), none⟩])) (.region [⟨some 16, .mv (.tmp 4), none⟩, ⟨some 17, .bin .add (.tmp 16) (.c (.one (.t (.int .i64 1)))), none⟩, ⟨some 4, .mv (.tmp 17), none⟩])))))) (.seq (.region [⟨some 30, .fieldA 0 (.tmp 3), none⟩, ⟨some 31, .load false 1 (.tmp 30), none⟩, ⟨some 32, .len (.tmp 31), none⟩, ⟨some 5, .mv (.tmp 32), none⟩]) (.seq (.seq (.region [⟨some 6, .mv (.c (.one (.t (.int .i64 0)))), none⟩]) (.block 2 (.loop (.seq (.seq (.region [⟨some 33, .mv (.tmp 6), none⟩, ⟨some 34, .fieldA 1 (.tmp 1), none⟩, ⟨some 35, .load false 1 (.tmp 34), none⟩, ⟨some 36, .len (.tmp 35), none⟩, ⟨some 37, .bin .lss (.tmp 33) (.tmp 36), none⟩, ⟨some 38, .mv (.tmp 37), none⟩, ⟨some 39, .mv (.tmp 6), some (38, true)⟩, ⟨some 40, .bin .lss (.tmp 39) (.c (.one (.t (.int .i64 10)))), some (38, true)⟩, ⟨some 41, .pick (.tmp 38) (.tmp 40) (.c (.one (.t (.bool false)))), none⟩, ⟨some 42, .mv (.tmp 41), none⟩, ⟨some 43, .mv (.tmp 5), some (42, true)⟩, ⟨some 44, .bin .gtr (.tmp 43) (.c (.one (.t (.int .i64 0)))), some (42, true)⟩, ⟨some 45, .pick (.tmp 42) (.tmp 44) (.c (.one (.t (.bool false)))), none⟩]) (.cond (.tmp 45) .skip (.exit 2))) (.seq (.block 3 (.draw [[], [0], [], [2], [], [3, 4], [5], [6], [7], [8], [], [10], [], [11, 12], [13], [14], [15], [], [16, 17], [], [19], [], [20, 21], [22], [23], [24], [], [25, 26], [9, 18, 27], [28], [1, 29], [0, 1, 2, 3, 4, 5, 6, 7, 8, 9, 10, 11, 12, 13, 14, 15, 16, 17, 18, 19, 20, 21, 22, 23, 24, 25, 26, 27, 28, 29, 30], [31, 30, 30, 0, 1, 2, 3, 4, 5, 6, 7, 8, 9, 10, 11, 12, 13, 14, 15, 16, 17, 18, 19, 20, 21, 22, 23, 24, 25, 26, 27, 28, 29, 30]] [⟨some 48, .fieldA 1 (.tmp 3), none⟩, ⟨some 49, .load false 1 (.tmp 48), none⟩, ⟨some 50, .fieldA 1 (.tmp 1), none⟩, ⟨some 51, .load false 1 (.tmp 50), none⟩, ⟨some 52, .mv (.tmp 6), none⟩, ⟨some 53, .idxA 3 (.tmp 51) (.tmp 52), none⟩, ⟨some 54, .idxArr 3 1 (.tmp 53) (.c (.one (.t (.int .i64 0)))), none⟩, ⟨some 55, .load false 1 (.tmp 54), none⟩, ⟨some 56, .bin .rem (.tmp 55) (.c (.one (.t (.int .u8 2)))), none⟩, ⟨some 57, .conv .i64 (.tmp 56), none⟩, ⟨some 58, .fieldA 1 (.tmp 1), none⟩, ⟨some 59, .load false 1 (.tmp 58), none⟩, ⟨some 60, .mv (.tmp 6), none⟩, ⟨some 61, .idxA 3 (.tmp 59) (.tmp 60), none⟩, ⟨some 62, .idxArr 3 1 (.tmp 61) (.c (.one (.t (.int .i64 1)))), none⟩, ⟨some 63, .load false 1 (.tmp 62), none⟩, ⟨some 64, .conv .i64 (.tmp 63), none⟩, ⟨some 65, .mv (.tmp 5), none⟩, ⟨some 66, .bin .rem (.tmp 64) (.tmp 65), none⟩, ⟨some 67, .fieldA 1 (.tmp 1), none⟩, ⟨some 68, .load false 1 (.tmp 67), none⟩, ⟨some 69, .mv (.tmp 6), none⟩, ⟨some 70, .idxA 3 (.tmp 68) (.tmp 69), none⟩, ⟨some 71, .idxArr 3 1 (.tmp 70) (.c (.one (.t (.int .i64 2)))), none⟩, ⟨some 72, .load false 1 (.tmp 71), none⟩, ⟨some 73, .conv .i64 (.tmp 72), none⟩, ⟨some 74, .mv (.tmp 5), none⟩, ⟨some 75, .bin .rem (.tmp 73) (.tmp 74), none⟩, ⟨some 76, .build [.t (.int .i64 0), .t (.int .i64 0), .t (.int .i64 0)] [(0, (1, .tmp 57)), (1, (1, .tmp 66)), (2, (1, .tmp 75))], none⟩, ⟨some 77, .mkrow 669 73 3 1 [.t (.int .i64 0), .t (.int .i64 0), .t (.int .i64 0)] [(0, (3, .tmp 76))], none⟩, ⟨some 78, .append 670 73 3 24 (.tmp 49) (.tmp 77), none⟩, ⟨some 79, .fieldA 1 (.tmp 3), none⟩, ⟨none, .store 1 (.tmp 79) (.tmp 78), none⟩])) (.region [⟨some 46, .mv (.tmp 6), none⟩, ⟨some 47, .bin .add (.tmp 46) (.c (.one (.t (.int .i64 1)))), none⟩, ⟨some 6, .mv (.tmp 47), none⟩])))))) (.seq (.region [⟨some 80, .load true 2 (.tmp 3), none⟩, ⟨none, .store 2 (.tmp 2) (.tmp 80), none⟩]) .ret)))))⟩
theorem k_made05 : cFn Try.prog Try.f55 = some c_made05 := by kernel_rfl
set_option maxHeartbeats 4000000 in
set_option maxRecDepth 20000 in
theorem made05_ok (d : Dr) (hb : BoundD d) : CallOK Try.prog 55 [d.v] (.sv (mdG d).v) := by
  refine callOK_W (callS_W (by kernel_rfl) Try.func55 k_made05 (callable_of Try.func55 (by kernel_rfl)) (by simp [c_made05]) ?_)
  have l8 : mdn d ≤ 8 := by simp only [mdn]; omega
  have l9 : mdn d ≤ d.nodes.length := by simp only [mdn]; omega
  have l10 : mde d ≤ 10 := by simp only [mde]; split <;> omega
  have ml := hb.1.2
  have ml2 := hb.2.2
  simp [c_made05, Dr.v, bys, t3s]
  refine loopW_count 4 (mdn d) (fun k S => S.fr 1 = .one (.ptr (0, 0) 0) ∧ S.fr 2 = .one (.ptr (1, 0) 0) ∧ S.fr 3 = .one (.ptr (64, 0) 0) ∧
    S.ob (0, 0) = some (bx 41 (d.v.2.map .t)) ∧ S.ob (1, 0) = some (bx 25 [.nil, .nil]) ∧
    ∃ vN, S.ob (64, 0) = some (bx 25 [vN, .nil]) ∧ outR 330 3 1 (mdN d k).length ((mdN d k).map (.int .i64)) S.ob (.one vN)) (by omega) ?_ ?_ ?_
  · simp [mdN, outR_nil, Dr.v, bys, t3s]
  · rintro k S hlt hw hc ⟨f1, f2, f3, o0, o1, vN, o64, hN⟩
    have k1 : k < d.nodes.length := by omega
    have k2 : (k : Int) < 8 := by omega
    have w0 : IntKind.i64.wrap ((byth d.nodes k % 3 : Nat) : Int) = ((byth d.nodes k % 3 : Nat) : Int) := by rw [wrap64_id] <;> omega
    have q1 := mdN_len (d := d) (k := k)
    have hN0 := hN
    rcases hN0 with ⟨m1, m2, m3⟩ | ⟨m1, g1, m3, m4⟩
    all_goals
      cases m3
      simp [dw0, dw1, dw2, dw3, f1, f2, f3, o0, o1, o64, hc, Dr.v, bys, t3s, len_byL, k1, k2, drop_byL k1, rem3, w0, -Int.natCast_emod]
      refine kApp_grow (ts := [.int .i64 ((byth d.nodes k % 3 : Nat) : Int)]) rfl (hN.keep fun g => by simp) (by omega) rfl (by omega) (by omega) fun E3 hE3 hob3 hcnt3 => ?_
      obtain ⟨u, hu3⟩ := hE3.one
      rw [hu3] at hE3
      simp [dw0, dw1, dw2, dw3, f1, f2, f3, o0, o1, o64, hc, hw, hob3, hcnt3, hu3, mdN_succ, Dr.v, bys, t3s, -Int.natCast_emod]
      refine ⟨by kernel_rfl, ?_⟩
      try simp [f1, f2, f3, o0, o1, o64, hc, hw, hob3, hcnt3, hu3, mdN_succ, Dr.v, bys, t3s, -Int.natCast_emod]
      exact outR.keep (by simpa using hE3) fun g => by simp
  · rintro S hc ⟨f1, f2, f3, o0, o1, vN, o64, hN⟩
    have q1 := mdN_len (d := d) (k := mdn d)
    have stop : (mdn d < d.nodes.length ∧ ¬ (mdn d : Int) < 8) ∨ ¬ mdn d < d.nodes.length := by
      simp only [mdn]
      omega
    have hN0 := hN
    rcases hN0 with ⟨m1, m2, m3⟩ | ⟨m1, g1, m3, m4⟩
    · cases m3
      have z : mdn d = 0 := by omega
      have z2 : mde d = 0 := by simp [mde, z]
      have z3 : d.nodes.length = 0 := by simp only [mdn] at z; omega
      have e1 : mdG d = ⟨[], []⟩ := by simp [mdG, z, z2, mdN, mdE]
      rw [z] at hc
      rw [e1]
      simp [f1, f2, f3, o0, o1, o64, hc, Dr.v, bys, t3s, len_byL, z3]
      refine loopW_count 6 0 (fun k S => S.fr 1 = .one (.ptr (0, 0) 0) ∧ S.fr 2 = .one (.ptr (1, 0) 0) ∧ S.fr 3 = .one (.ptr (64, 0) 0) ∧ S.fr 5 = .one (.t (.int .i64 0)) ∧
        S.ob (0, 0) = some (bx 41 (d.v.2.map .t)) ∧ S.ob (1, 0) = some (bx 25 [.nil, .nil]) ∧ S.ob (64, 0) = some (bx 25 [.nil, .nil])) (by omega) ?_ ?_ ?_
      · simp [f1, f2, f3, o0, o1, o64, Dr.v, bys, t3s]
      · rintro k S hlt hw hc _
        omega
      · rintro S hc ⟨f1, f2, f3, f5, o0, o1, o64⟩
        by_cases y1 : 0 < d.edges.length
        · have y2 : 0 < d.edges.length := y1
          simp [f1, f2, f3, f5, o0, o1, o64, hc, Dr.v, bys, t3s, len_byL, y1, edL]
        · simp [f1, f2, f3, f5, o0, o1, o64, hc, Dr.v, bys, t3s, len_byL, y1, edL]
    · cases m3
      have z : 0 < mdn d := by omega
      have z2 : mde d = min d.edges.length 10 := by simp only [mde]; rw [if_neg (by omega)]
      have zw : IntKind.i64.wrap (mdn d : Int) = mdn d := by rw [wrap64_id] <;> omega
      rcases stop with ⟨y1, y2⟩ | y1
      all_goals
        first
        | simp [f1, f2, f3, o0, o1, o64, hc, Dr.v, bys, t3s, len_byL, y1, y2, m4]
        | simp [f1, f2, f3, o0, o1, o64, hc, Dr.v, bys, t3s, len_byL, y1, m4]
        refine loopW_count 6 (mde d) (fun k S => S.fr 1 = .one (.ptr (0, 0) 0) ∧ S.fr 2 = .one (.ptr (1, 0) 0) ∧ S.fr 3 = .one (.ptr (64, 0) 0) ∧ S.fr 5 = .one (.t (.int .i64 (mdn d))) ∧
          S.ob (0, 0) = some (bx 41 (d.v.2.map .t)) ∧ S.ob (1, 0) = some (bx 25 [.nil, .nil]) ∧ S.ob (330, g1) = some ⟨true, true, false, 1, mdn d, 3, ((mdN d (mdn d)).map (.int .i64)).map .t⟩ ∧
          ∃ vE, S.ob (64, 0) = some (bx 25 [.row (330, g1), vE]) ∧ outR 670 73 3 (mdE d k).length (edL (mdE d k)) S.ob (.one vE)) (by omega) ?_ ?_ ?_
        · simp [f1, f2, f3, o0, o1, o64, m4, q1, Dr.v, bys, t3s, mdE, edL, outR_nil]
        · rintro k S hlt hw hc ⟨f1, f2, f3, f5, o0, o1, o330, vE, o64, hE⟩
          have k1 : k < d.edges.length := by omega
          have k2 : (k : Int) < 10 := by omega
          have k3 : k * 3 < d.edges.length * 3 := by omega
          obtain ⟨s1, s2, s3⟩ := t3th_small hb.2.1 k
          have r1 := Nat.mod_lt (t3th d.edges k).b z
          have r2 := Nat.mod_lt (t3th d.edges k).c z
          have w1 : IntKind.i64.wrap (((t3th d.edges k).a % 2 : Nat) : Int) = (((t3th d.edges k).a % 2 : Nat) : Int) := by rw [wrap64_id] <;> omega
          have w2 : IntKind.i64.wrap ((t3th d.edges k).b : Int) = (t3th d.edges k).b := by rw [wrap64_id] <;> omega
          have w3 : IntKind.i64.wrap ((t3th d.edges k).c : Int) = (t3th d.edges k).c := by rw [wrap64_id] <;> omega
          have qe := mdE_len (d := d) (k := k)
          have zn : ¬ mdn d = 0 := by omega
          have hE0 := hE
          rcases hE0 with ⟨t1, t2, t3⟩ | ⟨t1, g2, t3, t4⟩
          all_goals
            cases t3
            simp [dw0, dw1, dw2, dw3, f1, f2, f3, f5, o0, o1, o330, o64, hc, Dr.v, bys, t3s, len_t3L, k1, k2, k3, drop_t3L k1, rem2, nat_rem, w1, w2, w3, z, zn, -Int.natCast_emod]
            refine kApp_grow (ts := edC (mdX d k)) rfl (hE.keep fun g => by simp) (by omega) rfl (by omega) (by omega) fun E3 hE3 hob3 hcnt3 => ?_
            obtain ⟨u, hu3⟩ := hE3.one
            rw [hu3] at hE3
            simp [dw0, dw1, dw2, dw3, f1, f2, f3, f5, o0, o1, o330, o64, hc, hw, hob3, hcnt3, hu3, mdE_succ, Dr.v, bys, t3s]
            refine ⟨by kernel_rfl, ?_⟩
            try simp [f1, f2, f3, f5, o0, o1, o330, o64, hc, hw, hob3, hcnt3, hu3, mdE_succ, Dr.v, bys, t3s]
            refine outR.keep (by simpa [edL] using hE3) fun g => by simp
        · rintro S hc ⟨f1, f2, f3, f5, o0, o1, o330, vE, o64, hE⟩
          have qe := mdE_len (d := d) (k := mde d)
          have stop2 : (mde d < d.edges.length ∧ ¬ (mde d : Int) < 10) ∨ ¬ mde d < d.edges.length := by
            rw [z2]
            omega
          have hE0 := hE
          rcases hE0 with ⟨t1, t2, t3⟩ | ⟨t1, g2, t3, t4⟩
          all_goals
            cases t3
            rcases stop2 with ⟨u1, u2⟩ | u1
            all_goals
              first
              | simp [f1, f2, f3, f5, o0, o1, o330, o64, hc, Dr.v, bys, t3s, len_t3L, u1, u2, z, mdG, q1, qe, t4, untreeI, untreeT]
              | simp [f1, f2, f3, f5, o0, o1, o330, o64, hc, Dr.v, bys, t3s, len_t3L, u1, z, mdG, q1, qe, t4, untreeI, untreeT]
              | simp [f1, f2, f3, f5, o0, o1, o330, o64, hc, Dr.v, bys, t3s, len_t3L, u1, u2, z, mdG, q1, qe, t2, untreeI, untreeT]
              | simp [f1, f2, f3, f5, o0, o1, o330, o64, hc, Dr.v, bys, t3s, len_t3L, u1, z, mdG, q1, qe, t2, untreeI, untreeT]
              try omega
end Go.Proofs.Ythapbbpdcjmmfaa

/- Contracts: the reference's quotients of graphs. -/
namespace Go.Proofs.Ythapbbpdcjmmfaa
open Abs
set_option linter.unusedSimpArgs false
set_option linter.unusedVariables false

/-! ### What is constant on the classes of a generated partition -/
theorem genL_const {α : Type} {n : Nat} {f : Nat → α} : ∀ {l : List (Int × Int)} {p : List Int}, p.length = n → pairsIn l n → (∀ i, i < n → 0 ≤ nth p i) → (∀ i, i < n → f (nth p i).toNat = f i) → (∀ q ∈ l, f q.1.toNat = f q.2.toNat) →
    (∀ i, i < n → f (nth (l.foldl (fun p q => mergeL p q.1.toNat q.2.toNat) p) i).toNat = f i)
  | [], _, _, _, _, h, _ => h
  | q :: r, p, hl, hi, h0, h, hq => by
    rw [List.foldl_cons]
    obtain ⟨a1, a2, b1, b2⟩ := hi q (List.mem_cons_self ..)
    obtain ⟨a, ha⟩ := Int.eq_ofNat_of_zero_le a1
    obtain ⟨b, hb⟩ := Int.eq_ofNat_of_zero_le b1
    have e := hq q (List.mem_cons_self ..)
    rw [ha, hb] at e ⊢
    simp only [Int.toNat_natCast] at e ⊢
    have ha2 : a < n := by omega
    have hb2 : b < n := by omega
    have p1 := h0 a ha2
    have p2 := h0 b hb2
    have c1 := h a ha2
    have c2 := h b hb2
    refine genL_const (by rw [mergeL_len, hl]) (fun x hx => hi x (List.mem_cons_of_mem _ hx)) (fun i hi' => ?_) (fun i hi' => ?_) (fun x hx => hq x (List.mem_cons_of_mem _ hx))
    · rw [mergeL_nth (by omega)]
      split
      · omega
      · exact h0 i hi'
    · rw [mergeL_nth (by omega)]
      split
      · rename_i hm
        have c3 := h i hi'
        rw [hm] at c3
        rcases Int.le_total (nth p a) (nth p b) with hab | hab
        · rw [Int.min_eq_left hab, c1, e, ← c2, ← c3, Int.max_eq_right hab]
        · rw [Int.min_eq_right hab, c2, ← e, ← c1, ← c3, Int.max_eq_left hab]
      · exact h i hi'
theorem genL_inv {α : Type} {n : Nat} {f : Nat → α} {l : List (Int × Int)} (hi : pairsIn l n) (hq : ∀ q ∈ l, f q.1.toNat = f q.2.toNat) {i : Nat} (h : i < n) : f (nth (genL n l) i).toNat = f i :=
  genL_const idL_len hi (fun i h => by rw [idL_nth h]; omega) (fun i h => by rw [idL_nth h]; rfl) hq i h
theorem merge_eq {p : List Int} {a b i j : Nat} (hi : i < p.length) (hj : j < p.length) (h : nth p i = nth p j) : nth (mergeL p a b) i = nth (mergeL p a b) j := by
  rw [mergeL_nth hi, mergeL_nth hj, h]
theorem merge_ab {p : List Int} {a b : Nat} (hi : a < p.length) (hj : b < p.length) : nth (mergeL p a b) a = nth (mergeL p a b) b := by
  rw [mergeL_nth hi, mergeL_nth hj]
  split <;> split <;> omega
theorem fold_eq {n : Nat} : ∀ {l : List (Int × Int)} {p : List Int} {i j : Nat}, p.length = n → i < n → j < n → nth p i = nth p j → nth (l.foldl (fun p q => mergeL p q.1.toNat q.2.toNat) p) i = nth (l.foldl (fun p q => mergeL p q.1.toNat q.2.toNat) p) j
  | [], _, _, _, _, _, _, h => h
  | q :: r, p, i, j, hl, hi, hj, h => by
    rw [List.foldl_cons]
    exact fold_eq (by rw [mergeL_len, hl]) hi hj (merge_eq (by omega) (by omega) h)
theorem fold_pair {n : Nat} : ∀ {l : List (Int × Int)} {p : List Int}, p.length = n → pairsIn l n → ∀ q ∈ l, nth (l.foldl (fun p q => mergeL p q.1.toNat q.2.toNat) p) q.1.toNat = nth (l.foldl (fun p q => mergeL p q.1.toNat q.2.toNat) p) q.2.toNat
  | [], _, _, _, _, h => absurd h (by simp)
  | x :: r, p, hl, hi, q, hq => by
    rw [List.foldl_cons]
    rcases List.mem_cons.1 hq with rfl | hq
    · obtain ⟨a1, a2, b1, b2⟩ := hi q (List.mem_cons_self ..)
      exact fold_eq (n := n) (by rw [mergeL_len, hl]) (by omega) (by omega) (merge_ab (by omega) (by omega))
    · exact fold_pair (by rw [mergeL_len, hl]) (fun x hx => hi x (List.mem_cons_of_mem _ hx)) q hq
/-- The elements of a pair are in one class. -/
theorem genL_pair {n : Nat} {l : List (Int × Int)} (hi : pairsIn l n) {q : Int × Int} (hq : q ∈ l) : nth (genL n l) q.1.toNat = nth (genL n l) q.2.toNat := fold_pair idL_len hi q hq

/-! ### Classes written one by one -/
def clsF {α : Type} (p : List Int) (f : Nat → α) (i : Nat) : Option α := if nth p i = i then some (f i) else none
def clsL {α : Type} (p : List Int) (f : Nat → α) (z : α) (m k : Nat) : List α := collect (clsF p f) k ++ List.replicate (clsN p m - clsN p k) z
theorem clsF_len {α : Type} {p : List Int} {f : Nat → α} {n : Nat} : (collect (clsF p f) n).length = clsN p n := cls_collect
theorem clsL_len {α : Type} {p : List Int} {f : Nat → α} {z : α} {m k : Nat} (h : k ≤ m) : (clsL p f z m k).length = clsN p m := by
  have := clsN_mono (p := p) h
  simp only [clsL, List.length_append, clsF_len, List.length_replicate]
  omega
theorem clsL_zero {α : Type} {p : List Int} {f : Nat → α} {z : α} {m : Nat} : clsL p f z m 0 = List.replicate (clsN p m) z := by simp [clsL, collect_zero, clsN]
theorem clsL_all {α : Type} {p : List Int} {f : Nat → α} {z : α} {m : Nat} : clsL p f z m m = collect (clsF p f) m := by simp [clsL]
theorem clsF_get {α : Type} {p : List Int} {f : Nat → α} {j : Nat} (hj : nth p j = j) : ∀ {k : Nat}, j < k → (collect (clsF p f) k)[clsN p j]? = some (f j)
  | 0, h => absurd h (by omega)
  | k + 1, h => by
    by_cases e : j = k
    · subst e
      rw [collect_some (x := f j) (by simp [clsF, hj]), List.getElem?_append_right (by rw [clsF_len]; omega), clsF_len]
      simp
    · have ih := clsF_get (f := f) hj (k := k) (by omega)
      by_cases e2 : nth p k = k
      · rw [collect_some (x := f k) (by simp [clsF, e2]), List.getElem?_append_left (by rw [clsF_len]; exact clsN_lt hj (by omega)), ih]
      · rw [collect_none (by simp [clsF, e2]), ih]
theorem clsL_set {α : Type} {p : List Int} {f : Nat → α} {z : α} {m k : Nat} (hp : Flat p) (hm : p.length = m) (hk : k < m) (hf : f (nth p k).toNat = f k) : (clsL p f z m k).set (clsN p (nth p k).toNat) (f k) = clsL p f z m (k + 1) := by
  obtain ⟨j, hj, hle⟩ := hp.fo.at (show k < p.length by omega)
  have hx := hp.fx k (by omega)
  rw [hj, Int.toNat_natCast] at hx hf ⊢
  by_cases e : j = k
  · subst e
    have c1 : clsN p (j + 1) = clsN p j + 1 := by simp only [clsN, if_pos hj]
    have c2 := clsN_mono (p := p) (show j + 1 ≤ m by omega)
    have c3 : clsN p m - clsN p j = (clsN p m - clsN p (j + 1)) + 1 := by omega
    rw [clsL, c3, List.replicate_succ, List.set_append_right _ _ (by rw [clsF_len]; exact Nat.le_refl _), clsF_len, Nat.sub_self, List.set_cons_zero, clsL, collect_some (x := f j) (by simp [clsF, hj]), List.append_assoc]
    rfl
  · have e2 : ¬ (j : Int) = k := by omega
    have c1 : clsN p (k + 1) = clsN p k := by simp only [clsN, hj, if_neg e2]
    have hlt := clsN_lt (p := p) hx (show j < k by omega)
    have g := clsF_get (f := f) hx (show j < k by omega)
    rw [clsL, clsL, c1, collect_none (by simp [clsF, hj, e2]), List.set_append_left _ _ (by rw [clsF_len]; exact hlt)]
    congr 1
    apply List.ext_getElem?
    intro i
    rw [List.getElem?_set]
    split
    · rename_i h
      subst h
      rw [if_pos (by rw [clsF_len]; exact hlt), g, hf]
    · rfl

/-! ### A row of edges -/
def rowE (l : List Ed) : Ob := ⟨true, true, false, 3, l.length, 73, (edL l).map .t⟩
theorem edL_append {a b : List Ed} : edL (a ++ b) = edL a ++ edL b := by simp [edL]
theorem rowE_set {l : List Ed} {k : Nat} {e : Ed} (hk : k < l.length) : ((edL l).map V1.t).take (k * 3) ++ V1.t (.int .i64 e.t) :: V1.t (.int .i64 e.f) :: V1.t (.int .i64 e.g) :: ((edL l).map V1.t).drop (k * 3 + 3) = (edL (l.set k e)).map V1.t := by
  have h1 : l.set k e = l.take k ++ e :: l.drop (k + 1) := by rw [List.set_eq_take_append_cons_drop, if_pos hk]
  have h2 : edL l = edL (l.take k) ++ edL (l.drop k) := by rw [← edL_append, List.take_append_drop]
  have h3 : edL l = edL (l.take (k + 1)) ++ edL (l.drop (k + 1)) := by rw [← edL_append, List.take_append_drop]
  have h4 : (edL l).take (k * 3) = edL (l.take k) := by rw [h2, List.take_left' (by rw [len_edL, List.length_take, Nat.min_eq_left (by omega)])]
  have h5 : (edL l).drop (k * 3 + 3) = edL (l.drop (k + 1)) := by rw [h3, List.drop_left' (by rw [len_edL, List.length_take, Nat.min_eq_left (by omega)]; omega)]
  rw [← List.map_take, ← List.map_drop, h4, h5, h1, edL_append]
  simp [edL, edC]

theorem repl_edL {n : Nat} : (edL (List.replicate n ⟨0, 0, 0⟩)).map V1.t = (List.replicate n [V1.t (.int .i64 0), .t (.int .i64 0), .t (.int .i64 0)]).flatten := by
  induction n with
  | zero => rfl
  | succ n ih => rw [List.replicate_succ, List.replicate_succ, List.flatten_cons, ← ih]; simp [edL, edC]

end Go.Proofs.Ythapbbpdcjmmfaa

/- Contract: the image of a graph that numbers describe. -/
namespace Go.Proofs.Ythapbbpdcjmmfaa
open Abs
set_option linter.unusedSimpArgs false
set_option linter.unusedVariables false
attribute [local simp] rn0 rn1 rn2 rn3 rn4 rn5 rn6 rn7 evOp nests Arg.ev St.val St.set St.new sliceOf binInt2 binInt AV.cells rdAt St.live retOf resOf resAll treeOf treeCell treeCells treeTups untree frameOf TV.av TR.av ints edgs prs fillV splice intsOf trees V1.tree bx Gr.v Pa.v opRd opWr opNew opNewR opArgs argsRd argRd Arg.rd AV.refs V1.refs refsL dstL

/-- A number out of a list that is read round and round. -/
def rnd (c : List Int) (j : Nat) : Nat := (nth c (j % c.length)).toNat
def Nums (c : List Int) : Prop := c.length ≠ 0 ∧ ∀ x ∈ c, 0 ≤ x ∧ x < 256
theorem rnd_at {c : List Int} (h : Nums c) (j : Nat) : j % c.length < c.length ∧ nth c (j % c.length) = (rnd c j : Nat) ∧ rnd c j < 256 := by
  have h1 := Nat.mod_lt j (Nat.pos_of_ne_zero h.1)
  have := h.2 _ (nth_mem h1)
  exact ⟨h1, by simp only [rnd]; omega, by simp only [rnd]; omega⟩
theorem numsL_ok {l : List Nat} (hs : ∀ x ∈ l, x < 256) : Nums (numsL l) := by
  refine ⟨numsL_nat, fun x hx => ?_⟩
  unfold numsL at hx
  split at hx
  · simp at hx; omega
  · obtain ⟨y, hy, rfl⟩ := List.mem_map.1 hx
    have := hs y hy
    omega

/-- The pairs of nodes that are put together. -/
def imF (g : Gr) (c : List Int) (j : Nat) : Option (Int × Int) :=
  if rnd c (j + 1) % (j + 2) < j + 1 ∧ nth g.nodes (rnd c (j + 1) % (j + 2)) = nth g.nodes (j + 1) then some (((rnd c (j + 1) % (j + 2) : Nat) : Int), ((j + 1 : Nat) : Int)) else none
def imL (g : Gr) (c : List Int) (k : Nat) : List (Int × Int) := collect (imF g c) k
def imP (g : Gr) (c : List Int) (k : Nat) : List Int := genL g.nodes.length (imL g c k)
theorem imL_in {g : Gr} {c : List Int} {k : Nat} (h : k + 1 ≤ g.nodes.length ∨ k = 0) : pairsIn (imL g c k) g.nodes.length := fun q hq => by
  obtain ⟨j, hj, e⟩ := mem_collect.1 hq
  unfold imF at e
  split at e
  · rename_i h1
    injection e with e
    subst e
    have := h1.1
    simp only
    omega
  · cases e
theorem imL_same {g : Gr} {c : List Int} {k : Nat} : ∀ q ∈ imL g c k, nth g.nodes q.1.toNat = nth g.nodes q.2.toNat := fun q hq => by
  obtain ⟨j, hj, e⟩ := mem_collect.1 hq
  unfold imF at e
  split at e
  · rename_i h1
    injection e with e
    subst e
    exact h1.2
  · cases e
theorem imP_len {g : Gr} {c : List Int} {k : Nat} : (imP g c k).length = g.nodes.length := genL_len
theorem imP_flat {g : Gr} {c : List Int} {k : Nat} (h : k + 1 ≤ g.nodes.length ∨ k = 0) : Flat (imP g c k) := genL_flat (imL_in h)
theorem imP_zero {g : Gr} {c : List Int} : imP g c 0 = idL g.nodes.length := rfl
theorem imP_some {g : Gr} {c : List Int} {k a b : Nat} (h : imF g c k = some ((a : Int), (b : Int))) : imP g c (k + 1) = mergeL (imP g c k) a b := by
  rw [imP, imL, collect_some h, genL, List.foldl_append]
  rfl
theorem imP_none {g : Gr} {c : List Int} {k : Nat} (h : imF g c k = none) : imP g c (k + 1) = imP g c k := by
  rw [imP, imL, collect_none h]
  rfl

/-- The edges. -/
def imX (g : Gr) (q : List Int) (i : Nat) : Ed := ⟨(eth g.edges i).t, nth q (eth g.edges i).f.toNat, nth q (eth g.edges i).g.toNat⟩
def okC (c : List Int) (i k : Nat) : Prop := rnd c (i + k) % 2 = 0
instance (c : List Int) (i k : Nat) : Decidable (okC c i k) := inferInstanceAs (Decidable (_ = _))
def imAt (E : List Ed) (x : Ed) (c : List Int) (i : Nat) : Nat → Int
  | 0 => -1
  | k + 1 => if eth E k = x ∧ okC c i k then (k : Int) else imAt E x c i k
def imS (g : Gr) (c q : List Int) : Nat → List Ed × List Int
  | 0 => ([], [])
  | i + 1 => if imAt (imS g c q i).1 (imX g q i) c i (imS g c q i).1.length < 0 then ((imS g c q i).1 ++ [imX g q i], (imS g c q i).2 ++ [((imS g c q i).1.length : Int)])
    else ((imS g c q i).1, (imS g c q i).2 ++ [imAt (imS g c q i).1 (imX g q i) c i (imS g c q i).1.length])
theorem imS_len {g : Gr} {c q : List Int} : ∀ i, (imS g c q i).1.length ≤ i ∧ (imS g c q i).2.length = i
  | 0 => ⟨Nat.le_refl _, rfl⟩
  | i + 1 => by
    obtain ⟨h1, h2⟩ := imS_len (g := g) (c := c) (q := q) i
    unfold imS
    split <;> simp <;> omega
theorem imAt_lt {E : List Ed} {x : Ed} {c : List Int} {i : Nat} : ∀ k, -1 ≤ imAt E x c i k ∧ imAt E x c i k < k
  | 0 => ⟨by simp [imAt], by simp [imAt]⟩
  | k + 1 => by
    have := imAt_lt (E := E) (x := x) (c := c) (i := i) k
    unfold imAt
    split <;> omega
def imT (g : Gr) (c : List Int) : List Int := imP g c (g.nodes.length - 1)
def imQ (g : Gr) (c : List Int) : List Int := quotL (imT g c)
def imG (g : Gr) (c : List Int) : Gr := ⟨collect (clsF (imT g c) (nth g.nodes)) g.nodes.length, (imS g c (imQ g c) g.edges.length).1⟩
def imM (g : Gr) (c : List Int) : Pa := ⟨imQ g c, (imS g c (imQ g c) g.edges.length).2⟩

theorem drop_edLR {l : List Ed} {k : Nat} (h : k < l.length) : ((edL l).map V1.t).drop (k * 3) = .t (.int .i64 (eth l k).t) :: .t (.int .i64 (eth l k).f) :: .t (.int .i64 (eth l k).g) :: (edL (l.drop (k + 1))).map V1.t := by
  rw [← List.map_drop, drop_edL h]
  rfl

def c_image06 : MFunc := ⟨172, [.cell 4 true 2, .cell 5 true 2], .seq (.region [⟨some 2, .box 0 25 (.tmp 0), none⟩, ⟨some 4, .alloc 1 25 [.nil, .nil], none⟩, ⟨some 5, .alloc 2 28 [.nil, .nil], none⟩]) (.seq (.region [⟨some 20, .mv (.tmp 1), none⟩, ⟨some 21, .call (.c (.one (.fn 110 []))) 65 [.tmp 20], none⟩, ⟨some 6, .mv (.tmp 21), none⟩]) (.seq (.region [⟨some 22, .fieldA 0 (.tmp 2), none⟩, ⟨some 23, .load false 1 (.tmp 22), none⟩, ⟨some 24, .len (.tmp 23), none⟩, ⟨some 25, .call (.c (.one (.fn 109 []))) 131 [.tmp 24], none⟩, ⟨some 7, .mv (.tmp 25), none⟩]) (.seq (.seq (.region [⟨some 8, .mv (.c (.one (.t (.int .i64 1)))), none⟩]) (.block 0 (.loop (.seq (.seq (.region [⟨some 26, .mv (.tmp 8), none⟩, ⟨some 27, .fieldA 0 (.tmp 2), none⟩, ⟨some 28, .load false 1 (.tmp 27), none⟩, ⟨some 29, .len (.tmp 28), none⟩, ⟨some 30, .bin .lss (.tmp 26) (.tmp 29), none⟩]) (.cond (.tmp 30) .skip (.exit 0))) (.seq (.block 1 (.seq (.region [⟨some 33, .mv (.tmp 6), none⟩, ⟨some 34, .mv (.tmp 8), none⟩, ⟨some 35, .mv (.tmp 6), none⟩, ⟨some 36, .len (.tmp 35), none⟩, ⟨some 37, .bin .rem (.tmp 34) (.tmp 36), none⟩, ⟨some 38, .idxA 1 (.tmp 33) (.tmp 37), none⟩, ⟨some 39, .load false 1 (.tmp 38), none⟩, ⟨some 40, .mv (.tmp 8), none⟩, ⟨some 41, .bin .add (.tmp 40) (.c (.one (.t (.int .i64 1)))), none⟩, ⟨some 42, .bin .rem (.tmp 39) (.tmp 41), none⟩, ⟨some 9, .mv (.tmp 42), none⟩]) (.seq (.draw [[], [], [0, 1], [2], [3], [4, 3], [3], [5, 6, 3], [7, 3], [3], [9, 3], [3], [10, 11, 3], [12, 3], [8, 13, 3], [3, 14]] [⟨some 43, .mv (.tmp 9), none⟩, ⟨some 44, .mv (.tmp 8), none⟩, ⟨some 45, .bin .lss (.tmp 43) (.tmp 44), none⟩, ⟨some 46, .mv (.tmp 45), none⟩, ⟨some 47, .fieldA 0 (.tmp 2), some (46, true)⟩, ⟨some 48, .load false 1 (.tmp 47), some (46, true)⟩, ⟨some 49, .mv (.tmp 9), some (46, true)⟩, ⟨some 50, .idxA 1 (.tmp 48) (.tmp 49), some (46, true)⟩, ⟨some 51, .load false 1 (.tmp 50), some (46, true)⟩, ⟨some 52, .fieldA 0 (.tmp 2), some (46, true)⟩, ⟨some 53, .load false 1 (.tmp 52), some (46, true)⟩, ⟨some 54, .mv (.tmp 8), some (46, true)⟩, ⟨some 55, .idxA 1 (.tmp 53) (.tmp 54), some (46, true)⟩, ⟨some 56, .load false 1 (.tmp 55), some (46, true)⟩, ⟨some 57, .bin .eql (.tmp 51) (.tmp 56), some (46, true)⟩, ⟨some 58, .pick (.tmp 46) (.tmp 57) (.c (.one (.t (.bool false)))), none⟩]) (.cond (.tmp 58) (.region [⟨some 59, .mv (.tmp 7), none⟩, ⟨some 60, .mv (.tmp 9), none⟩, ⟨some 61, .mv (.tmp 8), none⟩, ⟨some 62, .call (.c (.one (.fn 111 []))) 515 [.tmp 59, .tmp 60, .tmp 61], none⟩, ⟨some 7, .mv (.tmp 62), none⟩]) .skip)))) (.region [⟨some 31, .mv (.tmp 8), none⟩, ⟨some 32, .bin .add (.tmp 31) (.c (.one (.t (.int .i64 1)))), none⟩, ⟨some 8, .mv (.tmp 32), none⟩])))))) (.seq (.region [⟨some 64, .mv (.tmp 7), none⟩, ⟨some 65, .call (.c (.one (.fn 112 []))) 577 [.tmp 64], none⟩, ⟨some 63, .mv (.tmp 65), none⟩, ⟨some 66, .extract (.tmp 63) 0, none⟩, ⟨some 67, .extract (.tmp 63) 1, none⟩, ⟨some 68, .extract (.tmp 63) 2, none⟩, ⟨some 10, .mv (.tmp 66), none⟩, ⟨some 11, .mv (.tmp 67), none⟩, ⟨some 12, .mv (.tmp 68), none⟩]) (.seq (.region [⟨some 69, .mv (.tmp 11), none⟩, ⟨some 70, .make 641 3 1 8 [.t (.int .i64 0)] (.tmp 69) (.tmp 69), none⟩, ⟨some 71, .build [.nil, .nil] [(0, (1, .tmp 70))], none⟩, ⟨some 13, .alloc 643 25 [.nil, .nil], none⟩, ⟨none, .store 2 (.tmp 13) (.tmp 71), none⟩]) (.seq (.region [⟨some 72, .mv (.tmp 10), none⟩, ⟨some 73, .build [.nil, .nil] [(0, (1, .tmp 72))], none⟩, ⟨some 14, .alloc 706 28 [.nil, .nil], none⟩, ⟨none, .store 2 (.tmp 14) (.tmp 73), none⟩]) (.seq (.seq (.region [⟨some 15, .mv (.c (.one (.t (.int .i64 0)))), none⟩]) (.block 2 (.loop (.seq (.seq (.region [⟨some 74, .mv (.tmp 15), none⟩, ⟨some 75, .fieldA 0 (.tmp 2), none⟩, ⟨some 76, .load false 1 (.tmp 75), none⟩, ⟨some 77, .len (.tmp 76), none⟩, ⟨some 78, .bin .lss (.tmp 74) (.tmp 77), none⟩]) (.cond (.tmp 78) .skip (.exit 2))) (.seq (.block 3 (.draw [[], [0], [], [], [2, 3], [4], [], [6], [], [7, 8], [9], [1, 5, 0, 1, 2, 3, 4, 5, 6, 7, 8, 9, 10], [11, 10, 0, 1, 2, 3, 4, 5, 6, 7, 8, 9, 10]] [⟨some 81, .fieldA 0 (.tmp 13), none⟩, ⟨some 82, .load false 1 (.tmp 81), none⟩, ⟨some 83, .mv (.tmp 10), none⟩, ⟨some 84, .mv (.tmp 15), none⟩, ⟨some 85, .idxA 1 (.tmp 83) (.tmp 84), none⟩, ⟨some 86, .load false 1 (.tmp 85), none⟩, ⟨some 87, .fieldA 0 (.tmp 2), none⟩, ⟨some 88, .load false 1 (.tmp 87), none⟩, ⟨some 89, .mv (.tmp 15), none⟩, ⟨some 90, .idxA 1 (.tmp 88) (.tmp 89), none⟩, ⟨some 91, .load false 1 (.tmp 90), none⟩, ⟨some 92, .idxA 1 (.tmp 82) (.tmp 86), none⟩, ⟨none, .store 1 (.tmp 92) (.tmp 91), none⟩])) (.region [⟨some 79, .mv (.tmp 15), none⟩, ⟨some 80, .bin .add (.tmp 79) (.c (.one (.t (.int .i64 1)))), none⟩, ⟨some 15, .mv (.tmp 80), none⟩])))))) (.seq (.seq (.region [⟨some 16, .mv (.c (.one (.t (.int .i64 0)))), none⟩]) (.block 4 (.loop (.seq (.seq (.region [⟨some 93, .mv (.tmp 16), none⟩, ⟨some 94, .fieldA 1 (.tmp 2), none⟩, ⟨some 95, .load false 1 (.tmp 94), none⟩, ⟨some 96, .len (.tmp 95), none⟩, ⟨some 97, .bin .lss (.tmp 93) (.tmp 96), none⟩]) (.cond (.tmp 97) .skip (.exit 4))) (.seq (.block 5 (.seq (.draw [[], [0], [], [1, 2], [3], [4], [], [], [7], [], [8, 9], [10], [11], [6, 12], [13], [], [], [16], [], [17, 18], [19], [20], [15, 21], [22], [5, 14, 23], [], [25, 24, 0, 1, 2, 3, 4, 5, 6, 7, 8, 9, 10, 11, 12, 13, 14, 15, 16, 17, 18, 19, 20, 21, 22, 23, 24, 25]] [⟨some 100, .fieldA 1 (.tmp 2), none⟩, ⟨some 101, .load false 1 (.tmp 100), none⟩, ⟨some 102, .mv (.tmp 16), none⟩, ⟨some 103, .idxA 3 (.tmp 101) (.tmp 102), none⟩, ⟨some 104, .fieldA 0 (.tmp 103), none⟩, ⟨some 105, .load false 1 (.tmp 104), none⟩, ⟨some 106, .mv (.tmp 10), none⟩, ⟨some 107, .fieldA 1 (.tmp 2), none⟩, ⟨some 108, .load false 1 (.tmp 107), none⟩, ⟨some 109, .mv (.tmp 16), none⟩, ⟨some 110, .idxA 3 (.tmp 108) (.tmp 109), none⟩, ⟨some 111, .fieldA 1 (.tmp 110), none⟩, ⟨some 112, .load false 1 (.tmp 111), none⟩, ⟨some 113, .idxA 1 (.tmp 106) (.tmp 112), none⟩, ⟨some 114, .load false 1 (.tmp 113), none⟩, ⟨some 115, .mv (.tmp 10), none⟩, ⟨some 116, .fieldA 1 (.tmp 2), none⟩, ⟨some 117, .load false 1 (.tmp 116), none⟩, ⟨some 118, .mv (.tmp 16), none⟩, ⟨some 119, .idxA 3 (.tmp 117) (.tmp 118), none⟩, ⟨some 120, .fieldA 2 (.tmp 119), none⟩, ⟨some 121, .load false 1 (.tmp 120), none⟩, ⟨some 122, .idxA 1 (.tmp 115) (.tmp 121), none⟩, ⟨some 123, .load false 1 (.tmp 122), none⟩, ⟨some 124, .build [.t (.int .i64 0), .t (.int .i64 0), .t (.int .i64 0)] [(0, (1, .tmp 105)), (1, (1, .tmp 114)), (2, (1, .tmp 123))], none⟩, ⟨some 17, .alloc 1241 73 [.t (.int .i64 0), .t (.int .i64 0), .t (.int .i64 0)], none⟩, ⟨none, .store 3 (.tmp 17) (.tmp 124), none⟩]) (.seq (.region [⟨some 18, .mv (.c (.one (.t (.int .i64 (-1))))), none⟩]) (.seq (.seq (.region [⟨some 19, .mv (.c (.one (.t (.int .i64 0)))), none⟩]) (.block 6 (.loop (.seq (.seq (.region [⟨some 125, .mv (.tmp 19), none⟩, ⟨some 126, .fieldA 1 (.tmp 13), none⟩, ⟨some 127, .load false 1 (.tmp 126), none⟩, ⟨some 128, .len (.tmp 127), none⟩, ⟨some 129, .bin .lss (.tmp 125) (.tmp 128), none⟩]) (.cond (.tmp 129) .skip (.exit 6))) (.seq (.block 7 (.seq (.draw [[], [0], [], [1, 2], [3], [], [4, 5], [6], [7], [7], [7], [9, 10, 7], [7], [12, 7], [11, 13, 7], [8, 14, 7], [15, 7], [16, 7], [17, 7], [7, 18]] [⟨some 132, .fieldA 1 (.tmp 13), none⟩, ⟨some 133, .load false 1 (.tmp 132), none⟩, ⟨some 134, .mv (.tmp 19), none⟩, ⟨some 135, .idxA 3 (.tmp 133) (.tmp 134), none⟩, ⟨some 136, .load true 3 (.tmp 135), none⟩, ⟨some 137, .load true 3 (.tmp 17), none⟩, ⟨some 138, .eqS false 3 (.tmp 136) (.tmp 137), none⟩, ⟨some 139, .mv (.tmp 138), none⟩, ⟨some 140, .mv (.tmp 6), some (139, true)⟩, ⟨some 141, .mv (.tmp 16), some (139, true)⟩, ⟨some 142, .mv (.tmp 19), some (139, true)⟩, ⟨some 143, .bin .add (.tmp 141) (.tmp 142), some (139, true)⟩, ⟨some 144, .mv (.tmp 6), some (139, true)⟩, ⟨some 145, .len (.tmp 144), some (139, true)⟩, ⟨some 146, .bin .rem (.tmp 143) (.tmp 145), some (139, true)⟩, ⟨some 147, .idxA 1 (.tmp 140) (.tmp 146), some (139, true)⟩, ⟨some 148, .load false 1 (.tmp 147), some (139, true)⟩, ⟨some 149, .bin .rem (.tmp 148) (.c (.one (.t (.int .i64 2)))), some (139, true)⟩, ⟨some 150, .bin .eql (.tmp 149) (.c (.one (.t (.int .i64 0)))), some (139, true)⟩, ⟨some 151, .pick (.tmp 139) (.tmp 150) (.c (.one (.t (.bool false)))), none⟩]) (.cond (.tmp 151) (.region [⟨some 152, .mv (.tmp 19), none⟩, ⟨some 18, .mv (.tmp 152), none⟩]) .skip))) (.region [⟨some 130, .mv (.tmp 19), none⟩, ⟨some 131, .bin .add (.tmp 130) (.c (.one (.t (.int .i64 1)))), none⟩, ⟨some 19, .mv (.tmp 131), none⟩])))))) (.seq (.seq (.region [⟨some 153, .mv (.tmp 18), none⟩, ⟨some 154, .bin .lss (.tmp 153) (.c (.one (.t (.int .i64 0)))), none⟩]) (.cond (.tmp 154) (.seq (.region [⟨some 155, .fieldA 1 (.tmp 13), none⟩, ⟨some 156, .load false 1 (.tmp 155), none⟩, ⟨some 157, .len (.tmp 156), none⟩, ⟨some 18, .mv (.tmp 157), none⟩]) (.region [⟨some 158, .fieldA 1 (.tmp 13), none⟩, ⟨some 159, .load false 1 (.tmp 158), none⟩, ⟨some 160, .load true 3 (.tmp 17), none⟩, ⟨some 161, .mkrow 1795 73 3 1 [.t (.int .i64 0), .t (.int .i64 0), .t (.int .i64 0)] [(0, (3, .tmp 160))], none⟩, ⟨some 162, .append 1796 73 3 24 (.tmp 159) (.tmp 161), none⟩, ⟨some 163, .fieldA 1 (.tmp 13), none⟩, ⟨none, .store 1 (.tmp 163) (.tmp 162), none⟩])) .skip)) (.region [⟨some 164, .fieldA 1 (.tmp 14), none⟩, ⟨some 165, .load false 1 (.tmp 164), none⟩, ⟨some 166, .mv (.tmp 18), none⟩, ⟨some 167, .mkrow 1859 3 1 1 [.t (.int .i64 0)] [(0, (1, .tmp 166))], none⟩, ⟨some 168, .append 1860 3 1 8 (.tmp 165) (.tmp 167), none⟩, ⟨some 169, .fieldA 1 (.tmp 14), none⟩, ⟨none, .store 1 (.tmp 169) (.tmp 168), none⟩])))))) (.region [⟨some 98, .mv (.tmp 16), none⟩, ⟨some 99, .bin .add (.tmp 98) (.c (.one (.t (.int .i64 1)))), none⟩, ⟨some 16, .mv (.tmp 99), none⟩])))))) (.seq (.draw [[], [], [0, 0], [1, 2, 0, 1, 2]] [⟨some 170, .load true 2 (.tmp 13), none⟩, ⟨some 171, .load true 2 (.tmp 14), none⟩, ⟨none, .store 2 (.tmp 4) (.tmp 170), none⟩, ⟨none, .store 2 (.tmp 5) (.tmp 171), none⟩]) .ret)))))))))⟩
theorem k_image06 : cFn Try.prog Try.f80 = some c_image06 := by kernel_rfl
set_option maxHeartbeats 8000000 in
set_option maxRecDepth 20000 in
theorem image06_ok (g : Gr) (l : List Nat) (gg : GrOk g) (hl : l.length ≤ 1048576) (hs : ∀ x ∈ l, x < 256) : CallOK Try.prog 80 [g.v, byV l] (.tup [(imG g (numsL l)).v, (imM g (numsL l)).v]) := by
  refine callOK_W (callS_W (by kernel_rfl) Try.func80 k_image06 (callable_of Try.func80 (by kernel_rfl)) (by simp [c_image06]) ?_)
  have b1 := gg.n
  have b2 := gg.e
  simp [c_image06, byV, bys]
  refine callS_tree (numbers06_ok l hl hs) ?_ ?_ ?_
  · rfl
  · rfl
  have nc := numsL_ok hs
  have cl : (numsL l).length ≤ 1048576 := by
    unfold numsL
    split
    · simp
    · simpa using hl
  generalize numsL l = c at nc cl ⊢
  have c0 := nc.1
  have c1 : ¬ c = [] := fun h => c0 (by rw [h]; rfl)
  simp
  refine callS_tree (finest02_row g.nodes.length (by show _ ≤ _; omega)).ok ?_ ?_ ?_
  · rfl
  · rfl
  simp
  have im1 : 1 ≤ max 1 g.nodes.length := by omega
  refine loopW_from 8 1 (max 1 g.nodes.length) (fun k S => S.fr 2 = .one (.ptr (0, 0) 0) ∧ S.fr 4 = .one (.ptr (1, 0) 0) ∧ S.fr 5 = .one (.ptr (2, 0) 0) ∧ S.fr 6 = .one (.t (ints c)) ∧ S.fr 7 = .one (.t (ints (imP g c (k - 1)))) ∧
    S.ob (0, 0) = some (bx 25 (g.v.2.map .t)) ∧ S.ob (1, 0) = some (bx 25 [.nil, .nil]) ∧ S.ob (2, 0) = some (bx 28 [.nil, .nil]) ∧ S.cnt 641 = 0 ∧ S.cnt 643 = 0 ∧ S.cnt 706 = 0) im1 (by omega) ?_ ?_ ?_
  · simp [imP_zero, idL_len]
  · rintro i S h1 hlt hw hc ⟨f2, f4, f5, f6, f7, o0, o1, o2, n1, n2, n3⟩
    have k1 : i < g.nodes.length := by omega
    obtain ⟨j, hj⟩ : ∃ j, i = j + 1 := ⟨i - 1, by omega⟩
    have hj1 : i - 1 = j := by omega
    rw [hj1] at f7
    have pl := imP_len (g := g) (c := c) (k := j)
    obtain ⟨r1, r2, r3⟩ := rnd_at nc i
    obtain ⟨m, hm⟩ : ∃ m, m = i % c.length := ⟨_, rfl⟩
    obtain ⟨v, hv⟩ : ∃ v, v = rnd c i := ⟨_, rfl⟩
    obtain ⟨k, hk⟩ : ∃ k, k = v % (i + 1) := ⟨_, rfl⟩
    have r4 : k < i + 1 := by rw [hk]; exact Nat.mod_lt _ (by omega)
    have e1 : (i : Int).tmod (c.length : Int) = (m : Int) := by rw [hm]; exact nat_rem
    have e2 : (v : Int).tmod ((i : Int) + 1) = (k : Int) := by rw [hk]; exact nat_rem (b := i + 1)
    have e3 : ¬ ((i : Int) + 1 = 0) := by omega
    rw [← hm] at r1 r2
    rw [← hv] at r2 r3
    have k2 : k < g.nodes.length := by omega
    have imf : imF g c j = if k < i ∧ nth g.nodes k = nth g.nodes i then some ((k : Int), (i : Int)) else none := by
      simp only [imF, ← hj, ← hv]
      rw [show j + 2 = i + 1 by omega, ← hk]
    have w1 : IntKind.i64.wrap ((i : Int) + 1) = (i : Int) + 1 := by rw [wrap64_id] <;> omega
    simp [dw0, dw1, dw2, dw3, f2, f4, f5, f6, f7, o0, o1, o2, hc, k1, c1, e1, r1, drop_nth r1, r2, w1, e2, e3]
    by_cases h1 : k < i
    · by_cases h2 : nth g.nodes k = nth g.nodes i
      · rw [if_pos ⟨h1, h2⟩] at imf
        have ps : imP g c i = mergeL (imP g c j) k i := by rw [hj] at imf ⊢; exact imP_some imf
        simp [dw0, dw1, dw2, dw3, f2, f4, f5, f6, f7, o0, o1, o2, hc, k1, c1, e1, r1, drop_nth r1, r2, w1, e2, e3, h1, k2, drop_nth k2, drop_nth k1, h2]
        refine ⟨by kernel_rfl, ?_⟩
        refine callS_tree (merge02_row (imP g c j) k i (by omega) (by omega) (by show _ ≤ _; omega)).ok ?_ ?_ ?_
        · rfl
        · rfl
        rw [← ps]
        simp [f2, f4, f5, f6, f7, o0, o1, o2, n1, n2, n3, hc, w1]
      · rw [if_neg fun h => h2 h.2] at imf
        have ps : imP g c i = imP g c j := by rw [hj]; exact imP_none imf
        simp [dw0, dw1, dw2, dw3, f2, f4, f5, f6, f7, o0, o1, o2, n1, n2, n3, hc, k1, c1, e1, r1, drop_nth r1, r2, w1, e2, e3, h1, k2, drop_nth k2, drop_nth k1, h2, ps]
        first | kernel_rfl | rfl | trace_state
    · rw [if_neg fun h => h1 h.1] at imf
      have ps : imP g c i = imP g c j := by rw [hj]; exact imP_none imf
      simp [dw0, dw1, dw2, dw3, f2, f4, f5, f6, f7, o0, o1, o2, n1, n2, n3, hc, k1, c1, e1, r1, drop_nth r1, r2, w1, e2, e3, h1, ps]
      first | kernel_rfl | rfl | trace_state
  · rintro S hc ⟨f2, f4, f5, f6, f7, o0, o1, o2, n1, n2, n3⟩
    have ex : ¬ max 1 g.nodes.length < g.nodes.length := by omega
    have mx : max 1 g.nodes.length - 1 = g.nodes.length - 1 := by omega
    rw [mx] at f7
    have hp : Flat (imT g c) := imP_flat (by omega)
    have lp : (imT g c).length = g.nodes.length := imP_len
    have hcon : ∀ i, i < g.nodes.length → nth g.nodes (nth (imT g c) i).toNat = nth g.nodes i := fun i hi => genL_inv (f := nth g.nodes) (imL_in (by omega)) imL_same hi
    have f7 : S.fr 7 = .one (.t (ints (imT g c))) := f7
    obtain ⟨mm, hmm⟩ : ∃ mm, mm = max 1 g.nodes.length := ⟨_, rfl⟩
    rw [← hmm] at hc ex
    simp [f2, f4, f5, f6, f7, o0, o1, o2, n1, n2, n3, hc, ex]
    refine callS_tree (quot02_ok (imT g c) hp (by omega)) ?_ ?_ ?_
    · rfl
    · rfl
    rw [lp]
    have cp := clsN_le (p := imT g c) g.nodes.length
    have y1 : clsN (imT g c) g.nodes.length * 8 ≤ 140737488355328 := by omega
    have y2 : (clsN (imT g c) g.nodes.length : Int) ≤ 9223372036854775807 := by omega
    have QN := quotL_len (p := imT g c)
    simp [f2, f4, f5, f6, f7, o0, o1, o2, n1, n2, n3, hc, y1, y2]
    refine loopW_count 15 g.nodes.length (fun k S => S.fr 2 = .one (.ptr (0, 0) 0) ∧ S.fr 4 = .one (.ptr (1, 0) 0) ∧ S.fr 5 = .one (.ptr (2, 0) 0) ∧ S.fr 6 = .one (.t (ints c)) ∧ S.fr 10 = .one (.t (ints (imQ g c))) ∧ S.fr 13 = .one (.ptr (643, 0) 0) ∧ S.fr 14 = .one (.ptr (706, 0) 0) ∧
      S.ob (0, 0) = some (bx 25 (g.v.2.map .t)) ∧ S.ob (1, 0) = some (bx 25 [.nil, .nil]) ∧ S.ob (2, 0) = some (bx 28 [.nil, .nil]) ∧ S.ob (643, 0) = some (bx 25 [.row (641, 0), .nil]) ∧ S.ob (706, 0) = some (bx 28 [.t (ints (imQ g c)), .nil]) ∧
      S.ob (641, 0) = some (rowO (clsL (imT g c) (nth g.nodes) 0 g.nodes.length k))) (by omega) ?_ ?_ ?_
    · simp [f2, f4, f5, f6, f7, o0, o1, o2, n1, n2, n3, rowO, clsL_zero, imQ]
    · rintro k S hlt hw hc ⟨f2, f4, f5, f6, f10, f13, f14, o0, o1, o2, o643, o706, o641⟩
      have hltq : k < (quotL (imT g c)).length := by omega
      have hltp : k < (imT g c).length := by omega
      have e1 := quotL_nth hltp
      obtain ⟨j, hj, hle⟩ := hp.fo.at hltp
      have hfx := hp.fx k hltp
      rw [hj, Int.toNat_natCast] at hfx
      rw [hj, Int.toNat_natCast] at e1
      have l1 := clsL_len (p := imT g c) (f := nth g.nodes) (z := 0) (m := g.nodes.length) (k := k) (by omega)
      have l2 := clsL_len (p := imT g c) (f := nth g.nodes) (z := 0) (m := g.nodes.length) (k := k + 1) (by omega)
      have hl : clsN (imT g c) j < clsN (imT g c) g.nodes.length := clsN_lt hfx (by omega)
      have hl1 : clsN (imT g c) j + 1 ≤ clsN (imT g c) g.nodes.length := hl
      have hl2 : clsN (imT g c) j < (clsL (imT g c) (nth g.nodes) 0 g.nodes.length k).length := by omega
      have e2 := row_set (v := nth g.nodes k) hl2
      have e3 := clsL_set (f := nth g.nodes) (z := 0) hp lp hlt (hcon k hlt)
      rw [hj, Int.toNat_natCast] at e3
      simp [dw0, dw1, dw2, dw3, f2, f4, f5, f6, f10, f13, f14, o0, o1, o2, o643, o706, o641, hc, hlt, imQ, hltq, drop_nth hltq, drop_nth hlt, e1, rowO, l1, hl, hl1, e2, e3, hw, l2]
      first | kernel_rfl | rfl | trace_state
    · rintro S hc ⟨f2, f4, f5, f6, f10, f13, f14, o0, o1, o2, o643, o706, o641⟩
      rw [clsL_all] at o641
      have eN : collect (clsF (imT g c) (nth g.nodes)) g.nodes.length = (imG g c).nodes := rfl
      rw [eN] at o641
      simp [f2, f4, f5, f6, f10, f13, f14, o0, o1, o2, o643, o706, o641, hc]
      refine loopW_count 16 g.edges.length (fun k S => S.fr 2 = .one (.ptr (0, 0) 0) ∧ S.fr 4 = .one (.ptr (1, 0) 0) ∧ S.fr 5 = .one (.ptr (2, 0) 0) ∧ S.fr 6 = .one (.t (ints c)) ∧ S.fr 10 = .one (.t (ints (imQ g c))) ∧ S.fr 13 = .one (.ptr (643, 0) 0) ∧ S.fr 14 = .one (.ptr (706, 0) 0) ∧
        S.ob (0, 0) = some (bx 25 (g.v.2.map .t)) ∧ S.ob (1, 0) = some (bx 25 [.nil, .nil]) ∧ S.ob (2, 0) = some (bx 28 [.nil, .nil]) ∧ S.ob (641, 0) = some (rowO (imG g c).nodes) ∧
        ∃ vE vM, S.ob (643, 0) = some (bx 25 [.row (641, 0), vE]) ∧ S.ob (706, 0) = some (bx 28 [.t (ints (imQ g c)), vM]) ∧
          outR 1796 73 3 (imS g c (imQ g c) k).1.length (edL (imS g c (imQ g c) k).1) S.ob (.one vE) ∧ outR 1860 3 1 (imS g c (imQ g c) k).2.length ((imS g c (imQ g c) k).2.map (.int .i64)) S.ob (.one vM)) (by omega) ?_ ?_ ?_
      · simp [f2, f4, f5, f6, f10, f13, f14, o0, o1, o2, o643, o706, o641, imS, edL, outR_nil]
      · rintro k S hlt hw hc ⟨f2, f4, f5, f6, f10, f13, f14, o0, o1, o2, o641, vE, vM, o643, o706, hE, hM⟩
        have hlt3 : k * 3 < g.edges.length * 3 := by omega
        obtain ⟨_, _, g1, g2, g3, g4⟩ := gg.edges _ (eth_mem hlt)
        obtain ⟨x, hx⟩ := Int.eq_ofNat_of_zero_le g1
        obtain ⟨y, hy⟩ := Int.eq_ofNat_of_zero_le g3
        have iq : (imQ g c).length = g.nodes.length := by rw [imQ, QN, lp]
        have hx2 : x < (imQ g c).length := by omega
        have hy2 : y < (imQ g c).length := by omega
        have eX : imX g (imQ g c) k = ⟨(eth g.edges k).t, nth (imQ g c) x, nth (imQ g c) y⟩ := by simp [imX, hx, hy]
        simp [dw0, dw1, dw2, dw3, f2, f4, f5, f6, f10, f13, f14, o0, o1, o2, o643, o706, o641, hc, hlt, hlt3, drop_edL hlt, hx, hy, hx2, hy2, drop_nth hx2, drop_nth hy2]
        refine ⟨by kernel_rfl, ?_⟩
        obtain ⟨gX, hgX⟩ : ∃ gX, gX = S.cnt 1241 := ⟨_, rfl⟩
        rw [← hgX]
        obtain ⟨l1, l2⟩ := imS_len (g := g) (c := c) (q := imQ g c) k
        have zs : imS g c (imQ g c) (k + 1) = if imAt (imS g c (imQ g c) k).1 (imX g (imQ g c) k) c k (imS g c (imQ g c) k).1.length < 0 then ((imS g c (imQ g c) k).1 ++ [imX g (imQ g c) k], (imS g c (imQ g c) k).2 ++ [((imS g c (imQ g c) k).1.length : Int)])
          else ((imS g c (imQ g c) k).1, (imS g c (imQ g c) k).2 ++ [imAt (imS g c (imQ g c) k).1 (imX g (imQ g c) k) c k (imS g c (imQ g c) k).1.length]) := rfl
        generalize (imS g c (imQ g c) k).1 = E at hE l1 zs
        generalize (imS g c (imQ g c) k).2 = M at hM l2 zs
        generalize imX g (imQ g c) k = X at eX zs
        have x1 : X.t = (eth g.edges k).t := by rw [eX]
        have x2 : X.f = nth (imQ g c) x := by rw [eX]
        have x3 : X.g = nth (imQ g c) y := by rw [eX]
        rw [← x1, ← x2, ← x3]
        have hE0 := hE
        rcases hE0 with ⟨t1, t2, t3⟩ | ⟨t1, gE, t3, t4⟩
        · cases t3
          refine loopW_count 19 E.length (fun j S => S.fr 2 = .one (.ptr (0, 0) 0) ∧ S.fr 4 = .one (.ptr (1, 0) 0) ∧ S.fr 5 = .one (.ptr (2, 0) 0) ∧ S.fr 6 = .one (.t (ints c)) ∧ S.fr 10 = .one (.t (ints (imQ g c))) ∧ S.fr 13 = .one (.ptr (643, 0) 0) ∧ S.fr 14 = .one (.ptr (706, 0) 0) ∧ S.fr 16 = .one (.t (.int .i64 k)) ∧ S.fr 17 = .one (.ptr (1241, gX) 0) ∧ S.fr 18 = .one (.t (.int .i64 (imAt E X c k j))) ∧
            S.ob (0, 0) = some (bx 25 (g.v.2.map .t)) ∧ S.ob (1, 0) = some (bx 25 [.nil, .nil]) ∧ S.ob (2, 0) = some (bx 28 [.nil, .nil]) ∧ S.ob (641, 0) = some (rowO (imG g c).nodes) ∧ S.ob (643, 0) = some (bx 25 [.row (641, 0), .nil]) ∧ S.ob (706, 0) = some (bx 28 [.t (ints (imQ g c)), vM]) ∧
            S.ob (1241, gX) = some (bx 73 [.t (.int .i64 X.t), .t (.int .i64 X.f), .t (.int .i64 X.g)]) ∧ outR 1796 73 3 E.length (edL E) S.ob (.one .nil) ∧ outR 1860 3 1 M.length (M.map (.int .i64)) S.ob (.one vM)) (by omega) ?_ ?_ ?_
          · simp [f2, f4, f5, f6, f10, f13, f14, o0, o1, o2, o641, o643, o706, hc, imAt]
            exact ⟨hE.keep fun g => by simp, hM.keep fun g => by simp⟩
          · rintro j S hj _ _ _
            omega
          · rintro S hcj ⟨f2, f4, f5, f6, f10, f13, f14, f16, f17, f18, o0, o1, o2, o641, o643, o706, o1241, hE, hM⟩
            have zl : imAt E X c k E.length < 0 := by rw [t1]; simp [imAt]
            rw [if_pos zl] at zs
            rw [t1] at hcj zs f18
            have t1' : E = [] := List.eq_nil_of_length_eq_zero t1
            have zz : (imAt E X c k 0) = -1 := rfl
            rw [zz] at f18
            subst t1'
            simp [f2, f4, f5, f6, f10, f13, f14, f16, f17, f18, o0, o1, o2, o641, o643, o706, o1241, hcj]
            refine kApp_grow (ts := edC X) rfl (hE.keep fun g => by simp) (by omega) rfl (by simp) (by simp) fun E3 hE3 hob3 hcnt3 => ?_
            obtain ⟨u, hu3⟩ := hE3.one
            rw [hu3] at hE3
            have hM3 := hM.keep (ob' := E3.ob) fun g => by rw [hob3 _ _ (by decide)]; simp
            simp [f2, f4, f5, f6, f10, f13, f14, f16, f17, f18, o0, o1, o2, o641, o643, o706, o1241, hcj, hob3, hcnt3, hu3]
            refine kApp_grow (ts := [.int .i64 0]) rfl (hM3.keep fun g => by simp) (by omega) rfl (by omega) (by omega) fun E4 hE4 hob4 hcnt4 => ?_
            obtain ⟨w, hw4⟩ := hE4.one
            rw [hw4] at hE4
            have hE5 := hE3.keep (ob' := E4.ob) fun g => by rw [hob4 _ _ (by decide)]; simp
            simp [f2, f4, f5, f6, f10, f13, f14, f16, f17, f18, o0, o1, o2, o641, o643, o706, o1241, hcj, hw, hob3, hcnt3, hu3, hob4, hcnt4, hw4, zs]
            exact ⟨outR.keep (by simpa [edL] using hE5) fun g => by simp, outR.keep (by simpa using hE4) fun g => by simp⟩
        · cases t3
          refine loopW_count 19 E.length (fun j S => S.fr 2 = .one (.ptr (0, 0) 0) ∧ S.fr 4 = .one (.ptr (1, 0) 0) ∧ S.fr 5 = .one (.ptr (2, 0) 0) ∧ S.fr 6 = .one (.t (ints c)) ∧ S.fr 10 = .one (.t (ints (imQ g c))) ∧ S.fr 13 = .one (.ptr (643, 0) 0) ∧ S.fr 14 = .one (.ptr (706, 0) 0) ∧ S.fr 16 = .one (.t (.int .i64 k)) ∧ S.fr 17 = .one (.ptr (1241, gX) 0) ∧ S.fr 18 = .one (.t (.int .i64 (imAt E X c k j))) ∧
            S.ob (0, 0) = some (bx 25 (g.v.2.map .t)) ∧ S.ob (1, 0) = some (bx 25 [.nil, .nil]) ∧ S.ob (2, 0) = some (bx 28 [.nil, .nil]) ∧ S.ob (641, 0) = some (rowO (imG g c).nodes) ∧ S.ob (643, 0) = some (bx 25 [.row (641, 0), .row (1796, gE)]) ∧ S.ob (706, 0) = some (bx 28 [.t (ints (imQ g c)), vM]) ∧
            S.ob (1241, gX) = some (bx 73 [.t (.int .i64 X.t), .t (.int .i64 X.f), .t (.int .i64 X.g)]) ∧ outR 1796 73 3 E.length (edL E) S.ob (.one (.row (1796, gE))) ∧ outR 1860 3 1 M.length (M.map (.int .i64)) S.ob (.one vM)) (by omega) ?_ ?_ ?_
          · simp [f2, f4, f5, f6, f10, f13, f14, o0, o1, o2, o641, o643, o706, hc, imAt]
            exact ⟨hE.keep fun g => by simp, hM.keep fun g => by simp⟩
          · rintro j S hj hwj hcj ⟨f2, f4, f5, f6, f10, f13, f14, f16, f17, f18, o0, o1, o2, o641, o643, o706, o1241, hE, hM⟩
            have hE1 := hE
            rcases hE1 with ⟨u1, _, _⟩ | ⟨u1, gE', u3, u4⟩
            · omega
            cases u3
            have hj3 : j * 3 < E.length * 3 := by omega
            have hj33 : j * 3 + 3 ≤ E.length * 3 := by omega
            have de := drop_edLR hj
            obtain ⟨r1, r2, r3⟩ := rnd_at nc (k + j)
            obtain ⟨m, hm⟩ : ∃ m, m = (k + j) % c.length := ⟨_, rfl⟩
            obtain ⟨v, hv⟩ : ∃ v, v = rnd c (k + j) := ⟨_, rfl⟩
            have e1 : ((k : Int) + (j : Int)).tmod (c.length : Int) = (m : Int) := by rw [hm, show (k : Int) + (j : Int) = ((k + j : Nat) : Int) by omega]; exact nat_rem
            have w1 : IntKind.i64.wrap ((k : Int) + (j : Int)) = (k : Int) + (j : Int) := by rw [wrap64_id] <;> omega
            rw [← hm] at r1 r2
            rw [← hv] at r2 r3
            have ok : okC c k j ↔ v % 2 = 0 := by rw [okC, ← hv]
            obtain ⟨p, hp2⟩ : ∃ p, p = v % 2 := ⟨_, rfl⟩
            have e2 : (v : Int).tmod 2 = (p : Int) := by rw [hp2]; exact rem2
            rw [← hp2] at ok
            by_cases e : eth E j = X
            · have e' := ed_eq.1 e
              by_cases hq : p = 0
              · have im : imAt E X c k (j + 1) = j := if_pos ⟨e, ok.2 hq⟩
                simp [dw0, dw1, dw2, dw3, f2, f4, f5, f6, f10, f13, f14, f16, f17, f18, o0, o1, o2, o641, o643, o706, o1241, u4, hcj, hj, hj3, hj33, de, e'.1, e'.2.1, e'.2.2, w1, e1, c1, r1, drop_nth r1, r2, e2, hq, hwj, im]
                exact ⟨by first | kernel_rfl | rfl, hE, hM⟩
              · have im : imAt E X c k (j + 1) = imAt E X c k j := if_neg fun h => hq (ok.1 h.2)
                simp [dw0, dw1, dw2, dw3, f2, f4, f5, f6, f10, f13, f14, f16, f17, f18, o0, o1, o2, o641, o643, o706, o1241, u4, hcj, hj, hj3, hj33, de, e'.1, e'.2.1, e'.2.2, w1, e1, c1, r1, drop_nth r1, r2, e2, hq, hwj, im]
                exact ⟨by first | kernel_rfl | rfl, hE, hM⟩
            · have im : imAt E X c k (j + 1) = imAt E X c k j := if_neg fun h => e h.1
              have e' : ¬ (eth E j).t = X.t ∨ ((eth E j).t = X.t ∧ ¬ (eth E j).f = X.f) ∨ ((eth E j).t = X.t ∧ (eth E j).f = X.f ∧ ¬ (eth E j).g = X.g) := by
                by_cases q1 : (eth E j).t = X.t
                · by_cases q2 : (eth E j).f = X.f
                  · by_cases q3 : (eth E j).g = X.g
                    · exact absurd (ed_eq.2 ⟨q1, q2, q3⟩) e
                    · exact .inr (.inr ⟨q1, q2, q3⟩)
                  · exact .inr (.inl ⟨q1, q2⟩)
                · exact .inl q1
              rcases e' with q1 | ⟨q1, q2⟩ | ⟨q1, q2, q3⟩
              · simp [dw0, dw1, dw2, dw3, f2, f4, f5, f6, f10, f13, f14, f16, f17, f18, o0, o1, o2, o641, o643, o706, o1241, u4, hcj, hj, hj3, hj33, de, q1, hwj, im]
                exact ⟨by first | kernel_rfl | rfl, hE, hM⟩
              · simp [dw0, dw1, dw2, dw3, f2, f4, f5, f6, f10, f13, f14, f16, f17, f18, o0, o1, o2, o641, o643, o706, o1241, u4, hcj, hj, hj3, hj33, de, q1, q2, hwj, im]
                exact ⟨by first | kernel_rfl | rfl, hE, hM⟩
              · simp [dw0, dw1, dw2, dw3, f2, f4, f5, f6, f10, f13, f14, f16, f17, f18, o0, o1, o2, o641, o643, o706, o1241, u4, hcj, hj, hj3, hj33, de, q1, q2, q3, hwj, im]
                exact ⟨by first | kernel_rfl | rfl, hE, hM⟩
          · rintro S hcj ⟨f2, f4, f5, f6, f10, f13, f14, f16, f17, f18, o0, o1, o2, o641, o643, o706, o1241, hE, hM⟩
            have hE1 := hE
            rcases hE1 with ⟨u1, _, _⟩ | ⟨u1, gE', u3, u4⟩
            · omega
            cases u3
            by_cases zl : imAt E X c k E.length < 0
            · rw [if_pos zl] at zs
              simp [f2, f4, f5, f6, f10, f13, f14, f16, f17, f18, o0, o1, o2, o641, o643, o706, o1241, u4, hcj, zl]
              refine kApp_grow (ts := edC X) rfl (hE.keep fun g => by simp) (by omega) rfl (by omega) (by omega) fun E3 hE3 hob3 hcnt3 => ?_
              obtain ⟨u, hu3⟩ := hE3.one
              rw [hu3] at hE3
              have hM3 := hM.keep (ob' := E3.ob) fun g => by rw [hob3 _ _ (by decide)]; simp
              simp [f2, f4, f5, f6, f10, f13, f14, f16, f17, f18, o0, o1, o2, o641, o643, o706, o1241, hcj, hob3, hcnt3, hu3]
              refine kApp_grow (ts := [.int .i64 E.length]) rfl (hM3.keep fun g => by simp) (by omega) rfl (by omega) (by omega) fun E4 hE4 hob4 hcnt4 => ?_
              obtain ⟨w, hw4⟩ := hE4.one
              rw [hw4] at hE4
              have hE5 := hE3.keep (ob' := E4.ob) fun g => by rw [hob4 _ _ (by decide)]; simp
              simp [f2, f4, f5, f6, f10, f13, f14, f16, f17, f18, o0, o1, o2, o641, o643, o706, o1241, hcj, hw, hob3, hcnt3, hu3, hob4, hcnt4, hw4, zs]
              exact ⟨outR.keep (by simpa [edL] using hE5) fun g => by simp, outR.keep (by simpa using hE4) fun g => by simp⟩
            · rw [if_neg zl] at zs
              simp [f2, f4, f5, f6, f10, f13, f14, f16, f17, f18, o0, o1, o2, o641, o643, o706, o1241, u4, hcj, zl]
              refine kApp_grow (ts := [.int .i64 (imAt E X c k E.length)]) rfl (hM.keep fun g => by simp) (by omega) rfl (by omega) (by omega) fun E4 hE4 hob4 hcnt4 => ?_
              obtain ⟨w, hw4⟩ := hE4.one
              rw [hw4] at hE4
              have hE5 := hE.keep (ob' := E4.ob) fun g => by rw [hob4 _ _ (by decide)]; simp
              simp [f2, f4, f5, f6, f10, f13, f14, f16, f17, f18, o0, o1, o2, o641, o643, o706, o1241, hcj, hw, hob4, hcnt4, hw4, zs]
              exact ⟨outR.keep (by simpa using hE5) fun g => by simp, outR.keep (by simpa using hE4) fun g => by simp⟩
      · rintro S hc ⟨f2, f4, f5, f6, f10, f13, f14, o0, o1, o2, o641, vE, vM, o643, o706, hE, hM⟩
        have eE : (imS g c (imQ g c) g.edges.length).1 = (imG g c).edges := rfl
        have eM : (imS g c (imQ g c) g.edges.length).2 = (imM g c).edges := rfl
        have eQ : imQ g c = (imM g c).nodes := rfl
        rw [eE] at hE
        rw [eM] at hM
        rw [eQ] at o706
        generalize imG g c = G at hE o641 ⊢
        generalize imM g c = MM at hM o706 ⊢
        rcases hE with ⟨t1, t2, t3⟩ | ⟨t1, gE, t3, t4⟩ <;> rcases hM with ⟨u1, u2, u3⟩ | ⟨u1, gM, u3, u4⟩
        all_goals
          cases t3
          cases u3
          simp [dw0, dw1, dw2, dw3, f2, f4, f5, f6, f10, f13, f14, o0, o1, o2, o641, o643, o706, hc, rowO]
          refine ⟨by first | kernel_rfl | rfl, ?_⟩
          first
          | simp [t4, u4, untreeI, untreeT]
          | simp [t4, u1, u2, untreeI, untreeT]
          | simp [t1, t2, u4, untreeI, untreeT]
          | simp [t1, t2, u1, u2, untreeI, untreeT]
          try omega
end Go.Proofs.Ythapbbpdcjmmfaa

/- Contract: the identity of a graph of any size. -/
namespace Go.Proofs.Ythapbbpdcjmmfaa
open Abs
set_option linter.unusedSimpArgs false
set_option linter.unusedVariables false
attribute [local simp] rn0 rn1 rn2 rn3 rn4 rn5 rn6 rn7 evOp nests Arg.ev St.val St.set St.new sliceOf binInt2 binInt AV.cells rdAt St.live retOf resOf resAll treeOf treeCell treeCells treeTups untree frameOf TV.av TR.av ints edgs prs fillV splice intsOf trees V1.tree bx Gr.v Pa.v opRd opWr opNew opNewR opArgs argsRd argRd Arg.rd AV.refs V1.refs refsL dstL

def idP (g : Gr) : Pa := ⟨idL g.nodes.length, idL g.edges.length⟩
def c_of06 : MFunc := ⟨12, [.cell 2 true 2], .seq (.region [⟨some 1, .box 0 25 (.tmp 0), none⟩, ⟨some 2, .alloc 1 28 [.nil, .nil], none⟩]) (.seq (.draw [[], [0], [1], [2], [], [4], [5], [6, 3], [3, 7], [8, 7, 0, 1, 2, 3, 4, 5, 6, 7, 8]] [⟨some 3, .fieldA 0 (.tmp 1), none⟩, ⟨some 4, .load false 1 (.tmp 3), none⟩, ⟨some 5, .len (.tmp 4), none⟩, ⟨some 6, .call (.c (.one (.fn 109 []))) 67 [.tmp 5], none⟩, ⟨some 7, .fieldA 1 (.tmp 1), none⟩, ⟨some 8, .load false 1 (.tmp 7), none⟩, ⟨some 9, .len (.tmp 8), none⟩, ⟨some 10, .call (.c (.one (.fn 109 []))) 71 [.tmp 9], none⟩, ⟨some 11, .build [.nil, .nil] [(0, (1, .tmp 6)), (1, (1, .tmp 10))], none⟩, ⟨none, .store 2 (.tmp 2) (.tmp 11), none⟩]) .ret)⟩
theorem k_of06 : cFn Try.prog Try.f79 = some c_of06 := by kernel_rfl
theorem of06_ok (g : Gr) (h : tinyG g) : CallOK Try.prog 79 [g.v] (.sv (idP g).v) := by
  refine callOK_W (callS_W (by kernel_rfl) Try.func79 k_of06 (callable_of Try.func79 (by kernel_rfl)) (by simp [c_of06]) ?_)
  simp [c_of06, dw0, dw1, dw2, dw3]
  refine dCall_ok (finest02_row g.nodes.length h.1).ok ?_ ?_ ?_
  · rfl
  · rfl
  simp [dw0, dw1, dw2, dw3]
  refine dCall_ok (finest02_row g.edges.length h.2).ok ?_ ?_ ?_
  · rfl
  · rfl
  simp [dw0, dw1, dw2, dw3, idP]
  rfl
end Go.Proofs.Ythapbbpdcjmmfaa

/- Contract: the grown image of a graph. -/
namespace Go.Proofs.Ythapbbpdcjmmfaa
open Abs
set_option linter.unusedSimpArgs false
set_option linter.unusedVariables false
attribute [local simp] rn0 rn1 rn2 rn3 rn4 rn5 rn6 rn7 evOp nests Arg.ev St.val St.set St.new sliceOf binInt2 binInt AV.cells rdAt St.live retOf resOf resAll treeOf treeCell treeCells treeTups untree frameOf TV.av TR.av ints edgs prs fillV splice intsOf trees V1.tree bx Gr.v Pa.v opRd opWr opNew opNewR opArgs argsRd argRd Arg.rd AV.refs V1.refs refsL dstL

def imB (l : List Nat) : Bool := decide (0 < l.length) && decide (byth l 0 < 255)
/-- What a graph grows from. -/
def grG (g : Gr) (l : List Nat) : Gr := if imB l = true then imG g (numsL l) else g
def grM (g : Gr) (l : List Nat) : Pa := if imB l = true then imM g (numsL l) else idP g
def gnF (l : List Nat) (j : Nat) : Option Int := if byth l (j + 1) % 2 = 1 then some ((byth l (j + 1) / 2 % 3 : Nat) : Int) else none
def grN (g : Gr) (l : List Nat) (k : Nat) : List Int := (grG g l).nodes ++ collect (gnF l) k
def gnc (l : List Nat) : Nat := min l.length 4 - 1
def grn (g : Gr) (l : List Nat) : List Int := grN g l (gnc l)
def geX (l : List Nat) (n j : Nat) : Ed := ⟨(byth l (j + 4) % 2 : Nat), (byth l (j + 4) / 2 % n : Nat), (byth l (j + 4) / 16 % n : Nat)⟩
def grE (g : Gr) (l : List Nat) (k : Nat) : List Ed := (grG g l).edges ++ (List.range k).map (geX l (grn g l).length)
def gec (g : Gr) (l : List Nat) : Nat := if (grn g l).length = 0 then 0 else min l.length 8 - 4
/-- The grown graph. -/
def growG (g : Gr) (l : List Nat) : Gr := ⟨grn g l, grE g l (gec g l)⟩
theorem outL2 {a b typ esz n : Nat} {cs : List Abs.C} {ob : Nm → Option Ob} {v : V1} (h : outL [a, b] typ esz n cs ob (.one v)) :
    (n = 0 ∧ cs = [] ∧ v = .nil) ∨ (0 < n ∧ ∃ g, v = .row (a, g) ∧ ob (a, g) = some ⟨true, true, false, esz, n, typ, cs.map .t⟩) ∨ (0 < n ∧ ∃ g, v = .row (b, g) ∧ ob (b, g) = some ⟨true, true, false, esz, n, typ, cs.map .t⟩) := by
  rcases h with ⟨h1, h2, h3⟩ | ⟨h1, nm, hm, g, h3, h4⟩
  · injection h3 with h3
    exact .inl ⟨h1, h2, h3⟩
  · injection h3 with h3
    simp at hm
    rcases hm with rfl | rfl
    · exact .inr (.inl ⟨h1, g, h3, h4⟩)
    · exact .inr (.inr ⟨h1, g, h3, h4⟩)
theorem outL1 {a typ esz n : Nat} {cs : List Abs.C} {ob : Nm → Option Ob} {v : V1} (h : outL [a] typ esz n cs ob (.one v)) :
    (n = 0 ∧ cs = [] ∧ v = .nil) ∨ (0 < n ∧ ∃ g, v = .row (a, g) ∧ ob (a, g) = some ⟨true, true, false, esz, n, typ, cs.map .t⟩) := by
  rcases h with ⟨h1, h2, h3⟩ | ⟨h1, nm, hm, g, h3, h4⟩
  · injection h3 with h3
    exact .inl ⟨h1, h2, h3⟩
  · injection h3 with h3
    simp at hm
    subst hm
    exact .inr ⟨h1, g, h3, h4⟩
theorem keep1 {a typ esz n : Nat} {cs : List Abs.C} {ob ob' : Nm → Option Ob} {v : AV} (h : outL [a] typ esz n cs ob v) (ho : ∀ g, ob' (a, g) = ob (a, g)) : outL [a] typ esz n cs ob' v := h.keep fun nm hm g => by simp at hm; subst hm; exact ho g
theorem keep2 {a b typ esz n : Nat} {cs : List Abs.C} {ob ob' : Nm → Option Ob} {v : AV} (h : outL [a, b] typ esz n cs ob v) (ho : ∀ g, ob' (a, g) = ob (a, g)) (ho2 : ∀ g, ob' (b, g) = ob (b, g)) : outL [a, b] typ esz n cs ob' v := h.keep fun nm hm g => by
  simp at hm
  rcases hm with rfl | rfl
  · exact ho g
  · exact ho2 g
theorem grN_some {g : Gr} {l : List Nat} {j : Nat} {x : Int} (h : gnF l j = some x) : grN g l (j + 1) = grN g l j ++ [x] := by simp only [grN, collect_some h, List.append_assoc]
theorem grN_none {g : Gr} {l : List Nat} {j : Nat} (h : gnF l j = none) : grN g l (j + 1) = grN g l j := by simp only [grN, collect_none h]
theorem grE_succ {g : Gr} {l : List Nat} {k : Nat} : grE g l (k + 1) = grE g l k ++ [geX l (grn g l).length k] := by simp [grE, List.range_succ]
theorem grE_len {g : Gr} {l : List Nat} {k : Nat} : (grE g l k).length = (grG g l).edges.length + k := by simp [grE]
theorem grN_len {g : Gr} {l : List Nat} {k : Nat} : (grN g l k).length ≤ (grG g l).nodes.length + k := by
  have := collect_len (f := gnF l) (k := k)
  simp only [grN, List.length_append]
  omega
theorem imG_few {g : Gr} {c : List Int} : (imG g c).nodes.length ≤ g.nodes.length ∧ (imG g c).edges.length ≤ g.edges.length := ⟨collect_len, (imS_len _).1⟩
theorem grG_few {g : Gr} {l : List Nat} : (grG g l).nodes.length ≤ g.nodes.length ∧ (grG g l).edges.length ≤ g.edges.length := by
  unfold grG
  split
  · exact imG_few
  · exact ⟨Nat.le_refl _, Nat.le_refl _⟩

theorem drop_byL0 {l : List Nat} (h : 0 < l.length) : byL l = .int .u8 (byth l 0 : Nat) :: byL l.tail := by
  have := drop_byL h
  rwa [List.drop_zero, List.drop_one] at this

def c_grown10 : MFunc := ⟨109, [.cell 4 true 2, .cell 5 true 2], .seq (.region [⟨some 2, .box 0 25 (.tmp 0), none⟩, ⟨some 4, .alloc 1 25 [.nil, .nil], none⟩, ⟨some 5, .alloc 2 28 [.nil, .nil], none⟩]) (.seq (.draw [[], [0], [], [2, 1], [], [], [4, 1, 3, 0, 1, 4, 5], [5, 3, 6, 0, 1, 2, 3, 4, 5, 6]] [⟨some 10, .load true 2 (.tmp 2), none⟩, ⟨some 11, .call (.c (.one (.fn 78 []))) 65 [.tmp 10], none⟩, ⟨some 12, .load true 2 (.tmp 2), none⟩, ⟨some 13, .call (.c (.one (.fn 79 []))) 67 [.tmp 12], none⟩, ⟨some 6, .alloc 68 25 [.nil, .nil], none⟩, ⟨some 7, .alloc 69 28 [.nil, .nil], none⟩, ⟨none, .store 2 (.tmp 6) (.tmp 11), none⟩, ⟨none, .store 2 (.tmp 7) (.tmp 13), none⟩]) (.seq (.seq (.region [⟨some 14, .mv (.tmp 1), none⟩, ⟨some 15, .len (.tmp 14), none⟩, ⟨some 16, .bin .gtr (.tmp 15) (.c (.one (.t (.int .i64 0)))), none⟩, ⟨some 17, .mv (.tmp 16), none⟩, ⟨some 18, .mv (.tmp 1), some (17, true)⟩, ⟨some 19, .idxA 1 (.tmp 18) (.c (.one (.t (.int .i64 0)))), some (17, true)⟩, ⟨some 20, .load false 1 (.tmp 19), some (17, true)⟩, ⟨some 21, .bin .lss (.tmp 20) (.c (.one (.t (.int .u8 255)))), some (17, true)⟩, ⟨some 22, .pick (.tmp 17) (.tmp 21) (.c (.one (.t (.bool false)))), none⟩]) (.cond (.tmp 22) (.region [⟨some 24, .load true 2 (.tmp 2), none⟩, ⟨some 25, .mv (.tmp 1), none⟩, ⟨some 26, .call (.c (.one (.fn 80 []))) 194 [.tmp 24, .tmp 25], none⟩, ⟨some 23, .mv (.tmp 26), none⟩, ⟨some 27, .extract (.tmp 23) 0, none⟩, ⟨some 28, .extract (.tmp 23) 1, none⟩, ⟨none, .store 2 (.tmp 6) (.tmp 27), none⟩, ⟨none, .store 2 (.tmp 7) (.tmp 28), none⟩]) .skip)) (.seq (.region [⟨some 29, .load true 2 (.tmp 6), none⟩, ⟨some 30, .call (.c (.one (.fn 78 []))) 257 [.tmp 29], none⟩, ⟨none, .store 2 (.tmp 6) (.tmp 30), none⟩]) (.seq (.seq (.region [⟨some 8, .mv (.c (.one (.t (.int .i64 1)))), none⟩]) (.block 0 (.loop (.seq (.seq (.region [⟨some 31, .mv (.tmp 8), none⟩, ⟨some 32, .mv (.tmp 1), none⟩, ⟨some 33, .len (.tmp 32), none⟩, ⟨some 34, .bin .lss (.tmp 31) (.tmp 33), none⟩, ⟨some 35, .mv (.tmp 34), none⟩, ⟨some 36, .mv (.tmp 8), some (35, true)⟩, ⟨some 37, .bin .leq (.tmp 36) (.c (.one (.t (.int .i64 3)))), some (35, true)⟩, ⟨some 38, .pick (.tmp 35) (.tmp 37) (.c (.one (.t (.bool false)))), none⟩]) (.cond (.tmp 38) .skip (.exit 0))) (.seq (.block 1 (.seq (.region [⟨some 41, .mv (.tmp 1), none⟩, ⟨some 42, .mv (.tmp 8), none⟩, ⟨some 43, .idxA 1 (.tmp 41) (.tmp 42), none⟩, ⟨some 44, .load false 1 (.tmp 43), none⟩, ⟨some 45, .bin .rem (.tmp 44) (.c (.one (.t (.int .u8 2)))), none⟩, ⟨some 46, .bin .eql (.tmp 45) (.c (.one (.t (.int .u8 1)))), none⟩]) (.cond (.tmp 46) (.draw [[], [0], [], [], [2, 3], [4], [5], [6], [7], [8], [1, 9], [0, 1, 2, 3, 4, 5, 6, 7, 8, 9, 10], [11, 10, 10, 0, 1, 2, 3, 4, 5, 6, 7, 8, 9, 10]] [⟨some 47, .fieldA 0 (.tmp 6), none⟩, ⟨some 48, .load false 1 (.tmp 47), none⟩, ⟨some 49, .mv (.tmp 1), none⟩, ⟨some 50, .mv (.tmp 8), none⟩, ⟨some 51, .idxA 1 (.tmp 49) (.tmp 50), none⟩, ⟨some 52, .load false 1 (.tmp 51), none⟩, ⟨some 53, .bin .quo (.tmp 52) (.c (.one (.t (.int .u8 2)))), none⟩, ⟨some 54, .conv .i64 (.tmp 53), none⟩, ⟨some 55, .bin .rem (.tmp 54) (.c (.one (.t (.int .i64 3)))), none⟩, ⟨some 56, .mkrow 585 3 1 1 [.t (.int .i64 0)] [(0, (1, .tmp 55))], none⟩, ⟨some 57, .append 586 3 1 8 (.tmp 48) (.tmp 56), none⟩, ⟨some 58, .fieldA 0 (.tmp 6), none⟩, ⟨none, .store 1 (.tmp 58) (.tmp 57), none⟩]) .skip))) (.region [⟨some 39, .mv (.tmp 8), none⟩, ⟨some 40, .bin .add (.tmp 39) (.c (.one (.t (.int .i64 1)))), none⟩, ⟨some 8, .mv (.tmp 40), none⟩])))))) (.seq (.seq (.region [⟨some 9, .mv (.c (.one (.t (.int .i64 4)))), none⟩]) (.block 2 (.loop (.seq (.seq (.region [⟨some 59, .mv (.tmp 9), none⟩, ⟨some 60, .mv (.tmp 1), none⟩, ⟨some 61, .len (.tmp 60), none⟩, ⟨some 62, .bin .lss (.tmp 59) (.tmp 61), none⟩, ⟨some 63, .mv (.tmp 62), none⟩, ⟨some 64, .mv (.tmp 9), some (63, true)⟩, ⟨some 65, .bin .leq (.tmp 64) (.c (.one (.t (.int .i64 7)))), some (63, true)⟩, ⟨some 66, .pick (.tmp 63) (.tmp 65) (.c (.one (.t (.bool false)))), none⟩, ⟨some 67, .mv (.tmp 66), none⟩, ⟨some 68, .fieldA 0 (.tmp 6), some (67, true)⟩, ⟨some 69, .load false 1 (.tmp 68), some (67, true)⟩, ⟨some 70, .len (.tmp 69), some (67, true)⟩, ⟨some 71, .bin .gtr (.tmp 70) (.c (.one (.t (.int .i64 0)))), some (67, true)⟩, ⟨some 72, .pick (.tmp 67) (.tmp 71) (.c (.one (.t (.bool false)))), none⟩]) (.cond (.tmp 72) .skip (.exit 2))) (.seq (.block 3 (.draw [[], [0], [], [], [2, 3], [4], [5], [6], [], [], [8, 9], [10], [11], [12], [], [14], [15], [13, 16], [], [], [18, 19], [20], [21], [22], [], [24], [25], [23, 26], [7, 17, 27], [28], [1, 29], [0, 1, 2, 3, 4, 5, 6, 7, 8, 9, 10, 11, 12, 13, 14, 15, 16, 17, 18, 19, 20, 21, 22, 23, 24, 25, 26, 27, 28, 29, 30], [31, 30, 30, 0, 1, 2, 3, 4, 5, 6, 7, 8, 9, 10, 11, 12, 13, 14, 15, 16, 17, 18, 19, 20, 21, 22, 23, 24, 25, 26, 27, 28, 29, 30]] [⟨some 75, .fieldA 1 (.tmp 6), none⟩, ⟨some 76, .load false 1 (.tmp 75), none⟩, ⟨some 77, .mv (.tmp 1), none⟩, ⟨some 78, .mv (.tmp 9), none⟩, ⟨some 79, .idxA 1 (.tmp 77) (.tmp 78), none⟩, ⟨some 80, .load false 1 (.tmp 79), none⟩, ⟨some 81, .conv .i64 (.tmp 80), none⟩, ⟨some 82, .bin .rem (.tmp 81) (.c (.one (.t (.int .i64 2)))), none⟩, ⟨some 83, .mv (.tmp 1), none⟩, ⟨some 84, .mv (.tmp 9), none⟩, ⟨some 85, .idxA 1 (.tmp 83) (.tmp 84), none⟩, ⟨some 86, .load false 1 (.tmp 85), none⟩, ⟨some 87, .bin .quo (.tmp 86) (.c (.one (.t (.int .u8 2)))), none⟩, ⟨some 88, .conv .i64 (.tmp 87), none⟩, ⟨some 89, .fieldA 0 (.tmp 6), none⟩, ⟨some 90, .load false 1 (.tmp 89), none⟩, ⟨some 91, .len (.tmp 90), none⟩, ⟨some 92, .bin .rem (.tmp 88) (.tmp 91), none⟩, ⟨some 93, .mv (.tmp 1), none⟩, ⟨some 94, .mv (.tmp 9), none⟩, ⟨some 95, .idxA 1 (.tmp 93) (.tmp 94), none⟩, ⟨some 96, .load false 1 (.tmp 95), none⟩, ⟨some 97, .bin .quo (.tmp 96) (.c (.one (.t (.int .u8 16)))), none⟩, ⟨some 98, .conv .i64 (.tmp 97), none⟩, ⟨some 99, .fieldA 0 (.tmp 6), none⟩, ⟨some 100, .load false 1 (.tmp 99), none⟩, ⟨some 101, .len (.tmp 100), none⟩, ⟨some 102, .bin .rem (.tmp 98) (.tmp 101), none⟩, ⟨some 103, .build [.t (.int .i64 0), .t (.int .i64 0), .t (.int .i64 0)] [(0, (1, .tmp 82)), (1, (1, .tmp 92)), (2, (1, .tmp 102))], none⟩, ⟨some 104, .mkrow 861 73 3 1 [.t (.int .i64 0), .t (.int .i64 0), .t (.int .i64 0)] [(0, (3, .tmp 103))], none⟩, ⟨some 105, .append 862 73 3 24 (.tmp 76) (.tmp 104), none⟩, ⟨some 106, .fieldA 1 (.tmp 6), none⟩, ⟨none, .store 1 (.tmp 106) (.tmp 105), none⟩])) (.region [⟨some 73, .mv (.tmp 9), none⟩, ⟨some 74, .bin .add (.tmp 73) (.c (.one (.t (.int .i64 1)))), none⟩, ⟨some 9, .mv (.tmp 74), none⟩])))))) (.seq (.draw [[], [], [0, 0], [1, 2, 0, 1, 2]] [⟨some 107, .load true 2 (.tmp 6), none⟩, ⟨some 108, .load true 2 (.tmp 7), none⟩, ⟨none, .store 2 (.tmp 4) (.tmp 107), none⟩, ⟨none, .store 2 (.tmp 5) (.tmp 108), none⟩]) .ret))))))⟩
theorem k_grown10 : cFn Try.prog Try.f56 = some c_grown10 := by kernel_rfl
set_option maxHeartbeats 8000000 in
set_option maxRecDepth 20000 in
theorem grown10_ok (g : Gr) (l : List Nat) (gg : GrOk g) (hl : l.length ≤ 1048576) (hs : ∀ x ∈ l, x < 256) : CallOK Try.prog 56 [g.v, byV l] (.tup [(growG g l).v, (grM g l).v]) := by
  refine callOK_W (callS_W (by kernel_rfl) Try.func56 k_grown10 (callable_of Try.func56 (by kernel_rfl)) (by simp [c_grown10]) ?_)
  have b1 := gg.n
  have b2 := gg.e
  have tg : tinyG g := ⟨by show _ ≤ _; omega, by show _ ≤ _; omega⟩
  obtain ⟨s1, s2⟩ := grG_few (g := g) (l := l)
  have tG : tinyG (grG g l) := ⟨by show _ ≤ _; omega, by show _ ≤ _; omega⟩
  simp [c_grown10, dw0, dw1, dw2, dw3, byV, bys]
  refine dCall_ok (copied5_ok g tg) ?_ ?_ ?_
  · rfl
  · rfl
  simp [dw0, dw1, dw2, dw3]
  refine dCall_ok (of06_ok g tg) ?_ ?_ ?_
  · rfl
  · rfl
  simp [dw0, dw1, dw2, dw3]
  refine ⟨by first | kernel_rfl | rfl, ?_⟩
  have eb : 0 < l.length ∧ (imB l = true ∧ ((byth l 0 : Nat) : Int) < 255 ∨ ¬ imB l = true ∧ ¬ ((byth l 0 : Nat) : Int) < 255) ∨ ¬ 0 < l.length ∧ ¬ imB l = true := by
    by_cases z : 0 < l.length
    · by_cases y : byth l 0 < 255
      · exact .inl ⟨z, .inl ⟨by simp [imB, z, y], by omega⟩⟩
      · exact .inl ⟨z, .inr ⟨by simp [imB, y], by omega⟩⟩
    · exact .inr ⟨z, by simp [imB]; omega⟩
  rcases eb with ⟨z, ⟨hb, i1⟩ | ⟨hb, i1⟩⟩ | ⟨z, hb⟩
  all_goals
    first
    | (have q1 : grG g l = imG g (numsL l) := if_pos hb
       have q2 : grM g l = imM g (numsL l) := if_pos hb
       simp [len_byL, z, drop_byL0 z, i1]
       simp only [← drop_byL0 z]
       refine callS_tree (image06_ok g l gg hl hs) ?_ ?_ ?_
       · rfl
       · rfl
       rw [← q1, ← q2]
       simp
       refine copied5S (grG g l) tG fun v1 v2 ob' cnt' h1 h2 k1 k2 k3 => ?_
       have p0 := k2 0 0 (by simp)
       have p1 := k2 1 0 (by simp)
       have p2 := k1 2 0 (by decide) (by decide) (by decide) (by decide)
       have p6 := k1 68 0 (by decide) (by decide) (by decide) (by decide)
       have p7 := k1 69 0 (by decide) (by decide) (by decide) (by decide)
       simp at p0 p1 p2 p6 p7
       simp [p6])
    | (have q1 : grG g l = g := if_neg hb
       have q2 : grM g l = idP g := if_neg hb
       simp [len_byL, z, drop_byL0 z, i1]
       simp only [← drop_byL0 z]
       refine copied5S g tg fun v1 v2 ob' cnt' h1 h2 k1 k2 k3 => ?_
       have p0 := k2 0 0 (by simp)
       have p1 := k2 1 0 (by simp)
       have p2 := k1 2 0 (by decide) (by decide) (by decide) (by decide)
       have p6 := k1 68 0 (by decide) (by decide) (by decide) (by decide)
       have p7 := k1 69 0 (by decide) (by decide) (by decide) (by decide)
       simp at p0 p1 p2 p6 p7
       rw [← q2] at p7
       rw [← q1] at h1 h2
       simp [p6])
    | (have q1 : grG g l = g := if_neg hb
       have q2 : grM g l = idP g := if_neg hb
       simp [len_byL, z]
       refine copied5S g tg fun v1 v2 ob' cnt' h1 h2 k1 k2 k3 => ?_
       have p0 := k2 0 0 (by simp)
       have p1 := k2 1 0 (by simp)
       have p2 := k1 2 0 (by decide) (by decide) (by decide) (by decide)
       have p6 := k1 68 0 (by decide) (by decide) (by decide) (by decide)
       have p7 := k1 69 0 (by decide) (by decide) (by decide) (by decide)
       simp at p0 p1 p2 p6 p7
       rw [← q2] at p7
       rw [← q1] at h1 h2
       simp [p6])
    clear p6 k1 k2 k3 z hb q1 q2
    refine loopW_from 8 1 (max 1 (min l.length 4)) (fun k S => S.fr 1 = .one (.t (bys l)) ∧ S.fr 4 = .one (.ptr (1, 0) 0) ∧ S.fr 5 = .one (.ptr (2, 0) 0) ∧ S.fr 6 = .one (.ptr (68, 0) 0) ∧ S.fr 7 = .one (.ptr (69, 0) 0) ∧
      S.ob (1, 0) = some (bx 25 [.nil, .nil]) ∧ S.ob (2, 0) = some (bx 28 [.nil, .nil]) ∧ S.ob (69, 0) = some (bx 28 [.t (ints (grM g l).nodes), .t (ints (grM g l).edges)]) ∧
      outL [71] 73 3 (grG g l).edges.length (edL (grG g l).edges) S.ob (.one v2) ∧
      ∃ vN, S.ob (68, 0) = some (bx 25 [vN, v2]) ∧ outL [67, 586] 3 1 (grN g l (k - 1)).length ((grN g l (k - 1)).map (.int .i64)) S.ob (.one vN)) (by omega) (by omega) ?_ ?_ ?_
    · simp [p1, p2, p7, bys, len_byL, grN, collect_zero]
      refine ⟨outL.keep h2 fun nm hm gg => ?_, outL.keep (outL.wide h1 (by simp)) fun nm hm gg => ?_⟩
      · simp at hm
        subst hm
        simp
      · simp at hm
        rcases hm with rfl | rfl <;> simp
    · rintro k S hk1 hlt hw hc ⟨f1, f4, f5, f6, f7, o1, o2, o69, hE, vN, o68, hN⟩
      obtain ⟨j, hj⟩ : ∃ j, k = j + 1 := ⟨k - 1, by omega⟩
      have k1 : k < l.length := by omega
      have k2 : (k : Int) ≤ 3 := by omega
      obtain ⟨v, hv⟩ : ∃ v, v = byth l k := ⟨_, rfl⟩
      have v1' : v < 256 := by rw [hv]; exact byth_small hs k
      obtain ⟨p, hp⟩ : ∃ p, p = v % 2 := ⟨_, rfl⟩
      obtain ⟨q, hq⟩ : ∃ q, q = v / 2 := ⟨_, rfl⟩
      obtain ⟨r, hr⟩ : ∃ r, r = q % 3 := ⟨_, rfl⟩
      have e1 : (v : Int).tmod 2 = (p : Int) := by rw [hp]; exact rem2
      have e2 : (v : Int).tdiv 2 = (q : Int) := by rw [hq]; exact quo2
      have e3 : (q : Int).tmod 3 = (r : Int) := by rw [hr]; exact rem3
      have w1 : IntKind.u8.wrap (q : Int) = q := wrap8 (by omega)
      have w2 : IntKind.i64.wrap (q : Int) = q := by rw [wrap64_id] <;> omega
      have dv := drop_byL k1
      rw [← hv] at dv
      have cl := grN_len (g := g) (l := l) (k := k - 1)
      have gk : gnF l j = if p = 1 then some (r : Int) else none := by
        simp only [gnF, ← hj, ← hv, hp, hr, hq]
      by_cases h3 : p = 1
      · rw [if_pos h3] at gk
        have gs : grN g l k = grN g l (k - 1) ++ [(r : Int)] := by rw [hj, Nat.add_sub_cancel]; exact grN_some gk
        rcases outL2 hN with ⟨t1, t2, t3⟩ | ⟨t1, gN, t3, t4⟩ | ⟨t1, gN, t3, t4⟩
        all_goals
          subst t3
          simp [dw0, dw1, dw2, dw3, f1, f4, f5, f6, f7, o1, o2, o69, o68, hc, bys, len_byL, k1, k2, dv, e1, e2, e3, w1, w2, h3]
          refine kApp_growL (nm := 586) (ts := [.int .i64 r]) (by simp) rfl (keep2 hN (fun g => by simp) fun g => by simp) rfl (by omega) (by omega) fun E3 hE3 hob3 hcnt3 => ?_
          obtain ⟨u, hu3⟩ := hE3.one
          rw [hu3] at hE3
          have hE4 := keep1 hE (ob' := E3.ob) fun g => by rw [hob3 _ _ (by decide)]; simp
          simp [dw0, dw1, dw2, dw3, f1, f4, f5, f6, f7, o1, o2, o69, o68, hc, hw, hob3, hcnt3, hu3, gs, bys, len_byL]
          refine ⟨by first | kernel_rfl | rfl, ?_⟩
          try simp [f1, f4, f5, f6, f7, o1, o2, o69, o68, hc, hw, hob3, hcnt3, hu3, gs, bys, len_byL]
          exact ⟨keep1 hE4 fun g => by simp, keep2 (by simpa using hE3) (fun g => by simp) fun g => by simp⟩
      · rw [if_neg h3] at gk
        have gs : grN g l k = grN g l (k - 1) := by rw [hj, Nat.add_sub_cancel]; exact grN_none gk
        have h3' : ¬ (p : Int) = 1 := by omega
        simp [f1, f4, f5, f6, f7, o1, o2, o69, o68, hc, bys, len_byL, k1, k2, dv, e1, h3, h3', hw, gs]
        exact ⟨by simpa using hE, by simpa using hN⟩
    · rintro S hc ⟨f1, f4, f5, f6, f7, o1, o2, o69, hE, vN, o68, hN⟩
      have stop : (max 1 (min l.length 4) < l.length ∧ ¬ ((max 1 (min l.length 4) : Nat) : Int) ≤ 3) ∨ ¬ max 1 (min l.length 4) < l.length := by omega
      have eN : grN g l (max 1 (min l.length 4) - 1) = grn g l := by
        rw [grn]
        congr 1
        simp only [gnc]
        omega
      rw [eN] at hN
      have gl : (grn g l).length ≤ 43 := by
        have := grN_len (g := g) (l := l) (k := gnc l)
        have : gnc l ≤ 3 := by simp only [gnc]; omega
        have e : (grn g l).length = (grN g l (gnc l)).length := rfl
        omega
      have ge0 : grE g l 0 = (grG g l).edges := by simp [grE]
      generalize max 1 (min l.length 4) = mx at hc stop
      rcases outL2 hN with ⟨t1, t2, t3⟩ | ⟨t1, gN, t3, t4⟩ | ⟨t1, gN, t3, t4⟩
      · subst t3
        have z2 : gec g l = 0 := by simp [gec, t1]
        have e1 : growG g l = ⟨grn g l, (grG g l).edges⟩ := by rw [growG, z2, ge0]
        rw [e1]
        rcases stop with ⟨y1, y2⟩ | y1
        all_goals
          first
          | simp [f1, f4, f5, f6, f7, o1, o2, o69, o68, hc, bys, len_byL, y1, y2]
          | simp [f1, f4, f5, f6, f7, o1, o2, o69, o68, hc, bys, len_byL, y1]
          refine loopW_from 9 4 4 (fun k S => S.fr 1 = .one (.t (bys l)) ∧ S.fr 4 = .one (.ptr (1, 0) 0) ∧ S.fr 5 = .one (.ptr (2, 0) 0) ∧ S.fr 6 = .one (.ptr (68, 0) 0) ∧ S.fr 7 = .one (.ptr (69, 0) 0) ∧
        S.ob (1, 0) = some (bx 25 [.nil, .nil]) ∧ S.ob (2, 0) = some (bx 28 [.nil, .nil]) ∧ S.ob (69, 0) = some (bx 28 [.t (ints (grM g l).nodes), .t (ints (grM g l).edges)]) ∧
        outL [67, 586] 3 1 (grn g l).length ((grn g l).map (.int .i64)) S.ob (.one .nil) ∧
        ∃ vE, S.ob (68, 0) = some (bx 25 [.nil, vE]) ∧ outL [71, 862] 73 3 (grE g l (k - 4)).length (edL (grE g l (k - 4))) S.ob (.one vE)) (by omega) (by omega) ?_ ?_ ?_
          · simp [f1, f4, f5, f6, f7, o1, o2, o69, o68, hc, bys, len_byL, ge0]
            exact ⟨by simpa using hN, outL.wide (by simpa using hE) (by simp)⟩
          · rintro k S hk1 hlt _ _ _
            omega
          · rintro S hc ⟨f1, f4, f5, f6, f7, o1, o2, o69, hN, vE, o68, hE⟩
            rw [show (4 - 4 : Nat) = 0 from rfl, ge0] at hE
            have hx : (4 : Int) < l.length ∨ ¬ (4 : Int) < l.length := by omega
            have t1' : grn g l = [] := List.eq_nil_of_length_eq_zero t1
            rcases hx with hx | hx <;> rcases outL2 hE with ⟨u1, u2, u3⟩ | ⟨u1, gE, u3, u4⟩ | ⟨u1, gE, u3, u4⟩
            all_goals
              subst u3
              simp [dw0, dw1, dw2, dw3, f1, f4, f5, f6, f7, o1, o2, o69, o68, hc, bys, len_byL, hx]
              refine ⟨by first | kernel_rfl | rfl, ?_⟩
              first
              | (simp [u4, t1', untreeI, untreeT]; done)
              | exact ⟨⟨t1.symm, t1'⟩, u1.symm, u2⟩
      · subst t3
        have zn : ¬ (grn g l).length = 0 := by omega
        have z2 : gec g l = min l.length 8 - 4 := by rw [gec, if_neg zn]
        have zp : (0 : Int) < (grn g l).length := by omega
        rcases stop with ⟨y1, y2⟩ | y1
        all_goals
          first
          | simp [f1, f4, f5, f6, f7, o1, o2, o69, o68, hc, bys, len_byL, y1, y2]
          | simp [f1, f4, f5, f6, f7, o1, o2, o69, o68, hc, bys, len_byL, y1]
          refine loopW_from 9 4 (max 4 (min l.length 8)) (fun k S => S.fr 1 = .one (.t (bys l)) ∧ S.fr 4 = .one (.ptr (1, 0) 0) ∧ S.fr 5 = .one (.ptr (2, 0) 0) ∧ S.fr 6 = .one (.ptr (68, 0) 0) ∧ S.fr 7 = .one (.ptr (69, 0) 0) ∧
        S.ob (1, 0) = some (bx 25 [.nil, .nil]) ∧ S.ob (2, 0) = some (bx 28 [.nil, .nil]) ∧ S.ob (69, 0) = some (bx 28 [.t (ints (grM g l).nodes), .t (ints (grM g l).edges)]) ∧
        S.ob (67, gN) = some ⟨true, true, false, 1, (grn g l).length, 3, ((grn g l).map (.int .i64)).map .t⟩ ∧
        ∃ vE, S.ob (68, 0) = some (bx 25 [.row (67, gN), vE]) ∧ outL [71, 862] 73 3 (grE g l (k - 4)).length (edL (grE g l (k - 4))) S.ob (.one vE)) (by omega) (by omega) ?_ ?_ ?_
          · simp [f1, f4, f5, f6, f7, o1, o2, o69, o68, hc, bys, len_byL, ge0, t4]
            exact outL.wide (by simpa using hE) (by simp)
          · rintro k S hk1 hlt hw hc ⟨f1, f4, f5, f6, f7, o1, o2, o69, t4, vE, o68, hE⟩
            obtain ⟨j, hj⟩ : ∃ j, k = j + 4 := ⟨k - 4, by omega⟩
            have k1 : k < l.length := by omega
            have k2 : (k : Int) ≤ 7 := by omega
            obtain ⟨v, hv⟩ : ∃ v, v = byth l k := ⟨_, rfl⟩
            have v1' : v < 256 := by rw [hv]; exact byth_small hs k
            obtain ⟨n, hn⟩ : ∃ n, n = (grn g l).length := ⟨_, rfl⟩
            obtain ⟨p, hp⟩ : ∃ p, p = v % 2 := ⟨_, rfl⟩
            obtain ⟨q, hq⟩ : ∃ q, q = v / 2 := ⟨_, rfl⟩
            obtain ⟨s, hs'⟩ : ∃ s, s = v / 16 := ⟨_, rfl⟩
            obtain ⟨a, ha⟩ : ∃ a, a = q % n := ⟨_, rfl⟩
            obtain ⟨b, hb⟩ : ∃ b, b = s % n := ⟨_, rfl⟩
            have e1 : (v : Int).tmod 2 = (p : Int) := by rw [hp]; exact rem2
            have e2 : (v : Int).tdiv 2 = (q : Int) := by rw [hq]; exact quo2
            have e3 : (v : Int).tdiv 16 = (s : Int) := by rw [hs']; exact quo16
            have e4 : (q : Int).tmod (n : Int) = (a : Int) := by rw [ha]; exact nat_rem
            have e5 : (s : Int).tmod (n : Int) = (b : Int) := by rw [hb]; exact nat_rem
            have w0 : IntKind.i64.wrap (v : Int) = v := by rw [wrap64_id] <;> omega
            have w1 : IntKind.u8.wrap (q : Int) = q := wrap8 (by omega)
            have w2 : IntKind.i64.wrap (q : Int) = q := by rw [wrap64_id] <;> omega
            have w3 : IntKind.u8.wrap (s : Int) = s := wrap8 (by omega)
            have w4 : IntKind.i64.wrap (s : Int) = s := by rw [wrap64_id] <;> omega
            have dv := drop_byL k1
            rw [← hv] at dv
            have gx : geX l n j = ⟨(p : Nat), (a : Nat), (b : Nat)⟩ := by simp only [geX, ← hj, ← hv, ← hp, ← hq, ← hs', ← ha, ← hb]
            have gs : grE g l (k - 3) = grE g l (k - 4) ++ [⟨(p : Nat), (a : Nat), (b : Nat)⟩] := by
              rw [show k - 3 = j + 1 by omega, show k - 4 = j by omega, grE_succ, ← hn, gx]
            have cl := grE_len (g := g) (l := l) (k := k - 4)
            have zn' : ¬ n = 0 := by omega
            have zp' : 0 < n := by omega
            rw [← hn] at t4
            rcases outL2 hE with ⟨u1, u2, u3⟩ | ⟨u1, gE, u3, u4⟩ | ⟨u1, gE, u3, u4⟩
            all_goals
              subst u3
              simp [dw0, dw1, dw2, dw3, f1, f4, f5, f6, f7, o1, o2, o69, o68, t4, hc, bys, len_byL, k1, k2, dv, zn', zp', e1, e2, e3, e4, e5, w0, w1, w2, w3, w4]
              refine kApp_growL (nm := 862) (ts := [.int .i64 p, .int .i64 a, .int .i64 b]) (by simp) rfl (keep2 hE (fun g => by simp) fun g => by simp) rfl (by omega) (by omega) fun E3 hE3 hob3 hcnt3 => ?_
              obtain ⟨u, hu3⟩ := hE3.one
              rw [hu3] at hE3
              simp [dw0, dw1, dw2, dw3, f1, f4, f5, f6, f7, o1, o2, o69, o68, t4, hc, hw, hob3, hcnt3, hu3, gs, bys, len_byL, ← hn]
              refine ⟨by first | kernel_rfl | rfl, ?_⟩
              try simp [f1, f4, f5, f6, f7, o1, o2, o69, o68, t4, hc, hw, hob3, hcnt3, hu3, gs, bys, len_byL, ← hn]
              exact keep2 (by simpa [edL, edC] using hE3) (fun g => by simp) fun g => by simp
          · rintro S hc ⟨f1, f4, f5, f6, f7, o1, o2, o69, t4, vE, o68, hE⟩
            have stop2 : (max 4 (min l.length 8) < l.length ∧ ¬ ((max 4 (min l.length 8) : Nat) : Int) ≤ 7) ∨ ¬ max 4 (min l.length 8) < l.length := by omega
            have eE : grE g l (max 4 (min l.length 8) - 4) = (growG g l).edges := by
              show _ = grE g l (gec g l)
              congr 1
              rw [z2]
              omega
            have eN : grn g l = (growG g l).nodes := rfl
            rw [eE] at hE
            rw [eN] at t4
            generalize growG g l = GG at hE t4 ⊢
            generalize grM g l = MM at o69 ⊢
            generalize max 4 (min l.length 8) = my at hc stop2
            rcases stop2 with ⟨y1, y2⟩ | y1 <;> rcases outL2 hE with ⟨u1, u2, u3⟩ | ⟨u1, gE, u3, u4⟩ | ⟨u1, gE, u3, u4⟩
            all_goals
              subst u3
              first
              | simp [dw0, dw1, dw2, dw3, f1, f4, f5, f6, f7, o1, o2, o69, o68, t4, hc, bys, len_byL, y1, y2]
              | simp [dw0, dw1, dw2, dw3, f1, f4, f5, f6, f7, o1, o2, o69, o68, t4, hc, bys, len_byL, y1]
              refine ⟨by first | kernel_rfl | rfl, ?_⟩
              first
              | simp [u4, t4, untreeI, untreeT]
              | simp [u1, u2, t4, untreeI, untreeT]
              try omega
      · subst t3
        have zn : ¬ (grn g l).length = 0 := by omega
        have z2 : gec g l = min l.length 8 - 4 := by rw [gec, if_neg zn]
        have zp : (0 : Int) < (grn g l).length := by omega
        rcases stop with ⟨y1, y2⟩ | y1
        all_goals
          first
          | simp [f1, f4, f5, f6, f7, o1, o2, o69, o68, hc, bys, len_byL, y1, y2]
          | simp [f1, f4, f5, f6, f7, o1, o2, o69, o68, hc, bys, len_byL, y1]
          refine loopW_from 9 4 (max 4 (min l.length 8)) (fun k S => S.fr 1 = .one (.t (bys l)) ∧ S.fr 4 = .one (.ptr (1, 0) 0) ∧ S.fr 5 = .one (.ptr (2, 0) 0) ∧ S.fr 6 = .one (.ptr (68, 0) 0) ∧ S.fr 7 = .one (.ptr (69, 0) 0) ∧
        S.ob (1, 0) = some (bx 25 [.nil, .nil]) ∧ S.ob (2, 0) = some (bx 28 [.nil, .nil]) ∧ S.ob (69, 0) = some (bx 28 [.t (ints (grM g l).nodes), .t (ints (grM g l).edges)]) ∧
        S.ob (586, gN) = some ⟨true, true, false, 1, (grn g l).length, 3, ((grn g l).map (.int .i64)).map .t⟩ ∧
        ∃ vE, S.ob (68, 0) = some (bx 25 [.row (586, gN), vE]) ∧ outL [71, 862] 73 3 (grE g l (k - 4)).length (edL (grE g l (k - 4))) S.ob (.one vE)) (by omega) (by omega) ?_ ?_ ?_
          · simp [f1, f4, f5, f6, f7, o1, o2, o69, o68, hc, bys, len_byL, ge0, t4]
            exact outL.wide (by simpa using hE) (by simp)
          · rintro k S hk1 hlt hw hc ⟨f1, f4, f5, f6, f7, o1, o2, o69, t4, vE, o68, hE⟩
            obtain ⟨j, hj⟩ : ∃ j, k = j + 4 := ⟨k - 4, by omega⟩
            have k1 : k < l.length := by omega
            have k2 : (k : Int) ≤ 7 := by omega
            obtain ⟨v, hv⟩ : ∃ v, v = byth l k := ⟨_, rfl⟩
            have v1' : v < 256 := by rw [hv]; exact byth_small hs k
            obtain ⟨n, hn⟩ : ∃ n, n = (grn g l).length := ⟨_, rfl⟩
            obtain ⟨p, hp⟩ : ∃ p, p = v % 2 := ⟨_, rfl⟩
            obtain ⟨q, hq⟩ : ∃ q, q = v / 2 := ⟨_, rfl⟩
            obtain ⟨s, hs'⟩ : ∃ s, s = v / 16 := ⟨_, rfl⟩
            obtain ⟨a, ha⟩ : ∃ a, a = q % n := ⟨_, rfl⟩
            obtain ⟨b, hb⟩ : ∃ b, b = s % n := ⟨_, rfl⟩
            have e1 : (v : Int).tmod 2 = (p : Int) := by rw [hp]; exact rem2
            have e2 : (v : Int).tdiv 2 = (q : Int) := by rw [hq]; exact quo2
            have e3 : (v : Int).tdiv 16 = (s : Int) := by rw [hs']; exact quo16
            have e4 : (q : Int).tmod (n : Int) = (a : Int) := by rw [ha]; exact nat_rem
            have e5 : (s : Int).tmod (n : Int) = (b : Int) := by rw [hb]; exact nat_rem
            have w0 : IntKind.i64.wrap (v : Int) = v := by rw [wrap64_id] <;> omega
            have w1 : IntKind.u8.wrap (q : Int) = q := wrap8 (by omega)
            have w2 : IntKind.i64.wrap (q : Int) = q := by rw [wrap64_id] <;> omega
            have w3 : IntKind.u8.wrap (s : Int) = s := wrap8 (by omega)
            have w4 : IntKind.i64.wrap (s : Int) = s := by rw [wrap64_id] <;> omega
            have dv := drop_byL k1
            rw [← hv] at dv
            have gx : geX l n j = ⟨(p : Nat), (a : Nat), (b : Nat)⟩ := by simp only [geX, ← hj, ← hv, ← hp, ← hq, ← hs', ← ha, ← hb]
            have gs : grE g l (k - 3) = grE g l (k - 4) ++ [⟨(p : Nat), (a : Nat), (b : Nat)⟩] := by
              rw [show k - 3 = j + 1 by omega, show k - 4 = j by omega, grE_succ, ← hn, gx]
            have cl := grE_len (g := g) (l := l) (k := k - 4)
            have zn' : ¬ n = 0 := by omega
            have zp' : 0 < n := by omega
            rw [← hn] at t4
            rcases outL2 hE with ⟨u1, u2, u3⟩ | ⟨u1, gE, u3, u4⟩ | ⟨u1, gE, u3, u4⟩
            all_goals
              subst u3
              simp [dw0, dw1, dw2, dw3, f1, f4, f5, f6, f7, o1, o2, o69, o68, t4, hc, bys, len_byL, k1, k2, dv, zn', zp', e1, e2, e3, e4, e5, w0, w1, w2, w3, w4]
              refine kApp_growL (nm := 862) (ts := [.int .i64 p, .int .i64 a, .int .i64 b]) (by simp) rfl (keep2 hE (fun g => by simp) fun g => by simp) rfl (by omega) (by omega) fun E3 hE3 hob3 hcnt3 => ?_
              obtain ⟨u, hu3⟩ := hE3.one
              rw [hu3] at hE3
              simp [dw0, dw1, dw2, dw3, f1, f4, f5, f6, f7, o1, o2, o69, o68, t4, hc, hw, hob3, hcnt3, hu3, gs, bys, len_byL, ← hn]
              refine ⟨by first | kernel_rfl | rfl, ?_⟩
              try simp [f1, f4, f5, f6, f7, o1, o2, o69, o68, t4, hc, hw, hob3, hcnt3, hu3, gs, bys, len_byL, ← hn]
              exact keep2 (by simpa [edL, edC] using hE3) (fun g => by simp) fun g => by simp
          · rintro S hc ⟨f1, f4, f5, f6, f7, o1, o2, o69, t4, vE, o68, hE⟩
            have stop2 : (max 4 (min l.length 8) < l.length ∧ ¬ ((max 4 (min l.length 8) : Nat) : Int) ≤ 7) ∨ ¬ max 4 (min l.length 8) < l.length := by omega
            have eE : grE g l (max 4 (min l.length 8) - 4) = (growG g l).edges := by
              show _ = grE g l (gec g l)
              congr 1
              rw [z2]
              omega
            have eN : grn g l = (growG g l).nodes := rfl
            rw [eE] at hE
            rw [eN] at t4
            generalize growG g l = GG at hE t4 ⊢
            generalize grM g l = MM at o69 ⊢
            generalize max 4 (min l.length 8) = my at hc stop2
            rcases stop2 with ⟨y1, y2⟩ | y1 <;> rcases outL2 hE with ⟨u1, u2, u3⟩ | ⟨u1, gE, u3, u4⟩ | ⟨u1, gE, u3, u4⟩
            all_goals
              subst u3
              first
              | simp [dw0, dw1, dw2, dw3, f1, f4, f5, f6, f7, o1, o2, o69, o68, t4, hc, bys, len_byL, y1, y2]
              | simp [dw0, dw1, dw2, dw3, f1, f4, f5, f6, f7, o1, o2, o69, o68, t4, hc, bys, len_byL, y1]
              refine ⟨by first | kernel_rfl | rfl, ?_⟩
              first
              | simp [u4, t4, untreeI, untreeT]
              | simp [u1, u2, t4, untreeI, untreeT]
              try omega
end Go.Proofs.Ythapbbpdcjmmfaa

/- Contracts: the reference's standard pushouts. -/
namespace Go.Proofs.Ythapbbpdcjmmfaa
open Abs
set_option linter.unusedSimpArgs false
set_option linter.unusedVariables false

/-! ### The types of what a span identifies -/
theorem nth_appL {a b : List Int} {i : Nat} (h : i < a.length) : nth (a ++ b) i = nth a i := by
  rw [nth_eq (by simp; omega), nth_eq h, List.getElem_append_left h]
theorem nth_appR {a b : List Int} {i : Nat} (h : i < b.length) : nth (a ++ b) (a.length + i) = nth b i := by
  rw [nth_eq (by simp; omega), nth_eq h, List.getElem_append_right (by omega)]
  simp
theorem eth_appL {a b : List Ed} {i : Nat} (h : i < a.length) : eth (a ++ b) i = eth a i := by
  rw [eth_eq (by simp; omega), eth_eq h, List.getElem_append_left h]
theorem eth_appR {a b : List Ed} {i : Nat} (h : i < b.length) : eth (a ++ b) (a.length + i) = eth b i := by
  rw [eth_eq (by simp; omega), eth_eq h, List.getElem_append_right (by omega)]
  simp
theorem eth_map {b : List Ed} {g : Ed → Ed} {i : Nat} (h : i < b.length) : eth (b.map g) i = g (eth b i) := by
  rw [eth_eq (by simpa using h), eth_eq h]
  simp
theorem glN_mem {s : Sp} (ok : SpOk s) {q : Int × Int} (h : q ∈ glN s) : ∃ i a b : Nat, i < s.A.nodes.length ∧ nth s.F.nodes i = a ∧ nth s.G.nodes i = b ∧ a < s.B.nodes.length ∧ b < s.C.nodes.length ∧ q = ((a : Int), ((s.B.nodes.length + b : Nat) : Int)) := by
  simp only [glN, pgK, List.mem_map, List.mem_range] at h
  obtain ⟨i, hi, rfl⟩ := h
  have l1 := ok.F.ln
  have l2 := ok.G.ln
  obtain ⟨a1, a2, _⟩ := ok.F.n i (by omega)
  obtain ⟨b1, b2, _⟩ := ok.G.n i (by omega)
  obtain ⟨a, ha⟩ := Int.eq_ofNat_of_zero_le a1
  obtain ⟨b, hb⟩ := Int.eq_ofNat_of_zero_le b1
  refine ⟨i, a, b, by omega, ha, hb, by omega, by omega, ?_⟩
  simp only [ha, hb, Int.toNat_natCast, unL, unR]
  rw [numL_nth (by omega), numL_nth (by omega)]
  simp
theorem glE_mem {s : Sp} (ok : SpOk s) {q : Int × Int} (h : q ∈ glE s) : ∃ i a b : Nat, i < s.A.edges.length ∧ nth s.F.edges i = a ∧ nth s.G.edges i = b ∧ a < s.B.edges.length ∧ b < s.C.edges.length ∧ q = ((a : Int), ((s.B.edges.length + b : Nat) : Int)) := by
  simp only [glE, pgK, List.mem_map, List.mem_range] at h
  obtain ⟨i, hi, rfl⟩ := h
  have l1 := ok.F.le
  have l2 := ok.G.le
  obtain ⟨a1, a2, _⟩ := ok.F.e i (by omega)
  obtain ⟨b1, b2, _⟩ := ok.G.e i (by omega)
  obtain ⟨a, ha⟩ := Int.eq_ofNat_of_zero_le a1
  obtain ⟨b, hb⟩ := Int.eq_ofNat_of_zero_le b1
  refine ⟨i, a, b, by omega, ha, hb, by omega, by omega, ?_⟩
  simp only [ha, hb, Int.toNat_natCast, unL, unR]
  rw [numL_nth (by omega), numL_nth (by omega)]
  simp
theorem glN_at {s : Sp} (ok : SpOk s) {i a b : Nat} (hi : i < s.A.nodes.length) (ha : nth s.F.nodes i = a) (hb : nth s.G.nodes i = b) : ((a : Int), ((s.B.nodes.length + b : Nat) : Int)) ∈ glN s := by
  simp only [glN, pgK, List.mem_map, List.mem_range]
  have l1 := ok.F.ln
  obtain ⟨a1, a2, _⟩ := ok.F.n i hi
  obtain ⟨b1, b2, _⟩ := ok.G.n i hi
  refine ⟨i, by omega, ?_⟩
  simp only [ha, hb, Int.toNat_natCast, unL, unR]
  rw [numL_nth (by omega), numL_nth (by omega)]
  simp
theorem glE_at {s : Sp} (ok : SpOk s) {i a b : Nat} (hi : i < s.A.edges.length) (ha : nth s.F.edges i = a) (hb : nth s.G.edges i = b) : ((a : Int), ((s.B.edges.length + b : Nat) : Int)) ∈ glE s := by
  simp only [glE, pgK, List.mem_map, List.mem_range]
  have l1 := ok.F.le
  obtain ⟨a1, a2, _⟩ := ok.F.e i hi
  obtain ⟨b1, b2, _⟩ := ok.G.e i hi
  refine ⟨i, by omega, ?_⟩
  simp only [ha, hb, Int.toNat_natCast, unL, unR]
  rw [numL_nth (by omega), numL_nth (by omega)]
  simp
/-- Images of a node are in one class. -/
theorem poP_pair {s : Sp} (ok : SpOk s) {i a b : Nat} (hi : i < s.A.nodes.length) (ha : nth s.F.nodes i = a) (hb : nth s.G.nodes i = b) : nth (poP s) a = nth (poP s) (s.B.nodes.length + b) :=
  genL_pair (glN_in ok) (glN_at ok hi ha hb)
theorem poQ_pair {s : Sp} (ok : SpOk s) {i a b : Nat} (hi : i < s.A.edges.length) (ha : nth s.F.edges i = a) (hb : nth s.G.edges i = b) : nth (poQ s) a = nth (poQ s) (s.B.edges.length + b) :=
  genL_pair (glE_in ok) (glE_at ok hi ha hb)
theorem poP_len {s : Sp} : (poP s).length = s.B.nodes.length + s.C.nodes.length := by rw [poP, genL_len, poU, unG_nlen]
theorem poQ_len {s : Sp} : (poQ s).length = s.B.edges.length + s.C.edges.length := by rw [poQ, genL_len, poU, unG_elen]
theorem poU_nL {s : Sp} {i : Nat} (h : i < s.B.nodes.length) : nth (poU s).nodes i = nth s.B.nodes i := nth_appL h
theorem poU_nR {s : Sp} {i : Nat} (h : i < s.C.nodes.length) : nth (poU s).nodes (s.B.nodes.length + i) = nth s.C.nodes i := nth_appR h
theorem poU_eL {s : Sp} {i : Nat} (h : i < s.B.edges.length) : eth (poU s).edges i = eth s.B.edges i := eth_appL h
theorem poU_eR {s : Sp} {i : Nat} (h : i < s.C.edges.length) : eth (poU s).edges (s.B.edges.length + i) = shiftE s.B.nodes.length (eth s.C.edges i) := by
  rw [poU, unG]
  simp only
  rw [eth_appR (by simpa using h), eth_map h]
theorem poN_const {s : Sp} (ok : SpOk s) : ∀ i, i < (poU s).nodes.length → nth (poU s).nodes (nth (poP s) i).toNat = nth (poU s).nodes i := fun i hi =>
  genL_inv (f := nth (poU s).nodes) (glN_in ok) (fun q hq => by
    obtain ⟨k, a, b, hk, ha, hb, ha2, hb2, rfl⟩ := glN_mem ok hq
    simp only [Int.toNat_natCast]
    rw [poU_nL ha2, poU_nR hb2]
    have h1 := (ok.F.n k hk).2.2
    have h2 := (ok.G.n k hk).2.2
    rw [ha, Int.toNat_natCast] at h1
    rw [hb, Int.toNat_natCast] at h2
    rw [h1, h2]) hi
theorem poE_const {s : Sp} (ok : SpOk s) : ∀ i, i < (poU s).edges.length → qE (poU s) (poP s) (nth (poQ s) i).toNat = qE (poU s) (poP s) i := fun i hi =>
  genL_inv (f := qE (poU s) (poP s)) (glE_in ok) (fun q hq => by
    obtain ⟨k, a, b, hk, ha, hb, ha2, hb2, rfl⟩ := glE_mem ok hq
    simp only [Int.toNat_natCast]
    obtain ⟨_, _, t1, u1, v1⟩ := ok.F.e k hk
    obtain ⟨_, _, t2, u2, v2⟩ := ok.G.e k hk
    rw [ha, Int.toNat_natCast] at t1 u1 v1
    rw [hb, Int.toNat_natCast] at t2 u2 v2
    obtain ⟨_, _, g1, g2, g3, g4⟩ := ok.F.ga.edges _ (eth_mem hk)
    obtain ⟨_, _, p1, p2, p3, p4⟩ := ok.F.gb.edges _ (eth_mem ha2)
    obtain ⟨_, _, q1, q2, q3, q4⟩ := ok.G.gb.edges _ (eth_mem hb2)
    have l := poP_len (s := s)
    obtain ⟨x, hx⟩ := Int.eq_ofNat_of_zero_le p1
    obtain ⟨y, hy⟩ := Int.eq_ofNat_of_zero_le p3
    obtain ⟨z, hz⟩ := Int.eq_ofNat_of_zero_le q1
    obtain ⟨w, hw⟩ := Int.eq_ofNat_of_zero_le q3
    have c1 := poP_pair ok (i := (eth s.A.edges k).f.toNat) (a := x) (b := z) (by omega) (by rw [u1, hx]) (by rw [u2, hz])
    have c2 := poP_pair ok (i := (eth s.A.edges k).g.toNat) (a := y) (b := w) (by omega) (by rw [v1, hy]) (by rw [v2, hw])
    have z1 : ((z : Int) + s.B.nodes.length).toNat = s.B.nodes.length + z := by omega
    have z2 : ((w : Int) + s.B.nodes.length).toNat = s.B.nodes.length + w := by omega
    rw [qE, qE, poU_eL ha2, poU_eR hb2]
    simp only [shiftE, hx, hy, hz, hw, Int.toNat_natCast, z1, z2, ← t1, ← t2]
    rw [quotL_nth (by omega), quotL_nth (by omega), quotL_nth (by omega), quotL_nth (by omega), c1, c2]) hi




end Go.Proofs.Ythapbbpdcjmmfaa

/- Contracts: spans of descriptions; squares of standard pushouts. -/
namespace Go.Proofs.Ythapbbpdcjmmfaa
open Abs
set_option linter.unusedSimpArgs false
set_option linter.unusedVariables false

theorem mdN_nth {d : Dr} {k i : Nat} (h : i < k) : nth (mdN d k) i = ((byth d.nodes i % 3 : Nat) : Int) := by
  rw [nth_eq (by rw [mdN_len]; exact h)]; simp [mdN]
theorem mdE_eth {d : Dr} {k i : Nat} (h : i < k) : eth (mdE d k) i = mdX d i := by
  rw [eth_eq (by rw [mdE_len]; exact h)]; simp [mdE]
theorem mdG_few {d : Dr} : (mdG d).nodes.length ≤ 8 ∧ (mdG d).edges.length ≤ 10 := by
  refine ⟨?_, ?_⟩
  · simp only [mdG, mdN_len, mdn]
    omega
  · simp only [mdG, mdE_len, mde]
    split <;> omega
theorem mdG_ok {d : Dr} : GrOk (mdG d) := by
  have hf := mdG_few (d := d)
  refine ⟨by omega, by omega, fun x hx => ?_, fun e he => ?_⟩
  · obtain ⟨i, hi, rfl⟩ := mem_nth hx
    simp only [mdG, mdN_len] at hi
    simp only [mdG]
    rw [mdN_nth hi]
    omega
  · obtain ⟨i, hi, rfl⟩ := mem_eth he
    simp only [mdG, mdE_len] at hi
    have z : mdn d ≠ 0 := by
      intro h
      simp [mde, h] at hi
    have z1 := Nat.mod_lt (t3th d.edges i).b (Nat.pos_of_ne_zero z)
    have z2 := Nat.mod_lt (t3th d.edges i).c (Nat.pos_of_ne_zero z)
    simp only [mdG]
    rw [mdE_eth hi, mdX, mdN_len]
    simp only
    omega

def mdS (d : Dr) (b c : List Nat) : Sp := ⟨mdG d, growG (mdG d) b, growG (mdG d) c, grM (mdG d) b, grM (mdG d) c⟩

def glS (s : Sp) : Sq := ⟨s.A, s.B, s.C, (poR s).1, s.F, s.G, (poR s).2.1, (poR s).2.2.1⟩
end Go.Proofs.Ythapbbpdcjmmfaa

/- Contracts: the reference's mediating morphisms and checks of pushouts; the reference's kind of a square. -/
namespace Go.Proofs.Ythapbbpdcjmmfaa
open Abs
set_option linter.unusedSimpArgs false
set_option linter.unusedVariables false


/-- The last place of a number among the first j of a list (or -1). -/
def bkV (l : List Int) (k : Nat) : Nat → Int
  | 0 => -1
  | j + 1 => if nth l j = k then j else bkV l k j
def bkL (l : List Int) (n : Nat) : List Int := (List.range n).map fun k => bkV l k l.length
theorem bkL_len {l : List Int} {n : Nat} : (bkL l n).length = n := by simp [bkL]
theorem bkL_succ {l : List Int} {n : Nat} : bkL l (n + 1) = bkL l n ++ [bkV l n l.length] := by simp [bkL, List.range_succ]
theorem set_last {a : List Int} {x y : Int} {n : Nat} (h : a.length = n) : (a ++ [x]).set n y = a ++ [y] := by
  rw [List.set_append_right _ _ (by omega), h, Nat.sub_self]
  rfl


/-- The error of an inverse. -/
def invE (a b : Gr) (m : Pa) : Int := if morErr a b m = 0 then if injB a b m = true then if surjB a b m = true then 0 else 10 else 10 else morErr a b m
def invR (a b : Gr) (m : Pa) : Pa := if invE a b m = 0 then ⟨bkL m.nodes b.nodes.length, bkL m.edges b.edges.length⟩ else ⟨[], []⟩

theorem poR_tiny {s : Sp} (h : unErr s.B s.C = 0) : tinyG (poG s) := poG_tiny h
theorem invE_zero {a b : Gr} {m : Pa} (h : morErr a b m = 0 ∨ injB a b m = true) : decide (invE a b m = 0) = (injB a b m && surjB a b m) := by
  by_cases h1 : morErr a b m = 0
  · cases h2 : injB a b m <;> cases h3 : surjB a b m <;> simp [invE, h1, h2, h3]
  · have : injB a b m = false := by simp [injB, h1]
    simp [invE, h1, this]
theorem invE_iff {a b : Gr} {m : Pa} : decide (invE a b m = 0) = (injB a b m && surjB a b m) := by
  by_cases h1 : morErr a b m = 0
  · exact invE_zero (.inl h1)
  · have : injB a b m = false := by simp [injB, h1]
    simp [invE, h1, this]




end Go.Proofs.Ythapbbpdcjmmfaa
