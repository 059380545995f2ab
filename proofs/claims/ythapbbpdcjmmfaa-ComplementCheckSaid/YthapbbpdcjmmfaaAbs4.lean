/-
  Go's operations, compiled, do what the small code says: operations on values, on pointers and on cells. No condition beyond those that each statement names.
-/
import Derived.Test.YthapbbpdcjmmfaaAbs3
namespace Go.Proofs.Ythapbbpdcjmmfaa.Abs
open Go.RowKit
set_option linter.unusedVariables false
set_option linter.unusedSimpArgs false

section ops
variable {P : Program} {o : Oper} {a : Act} {w w0 : World} {I : Ini} {Zc : Nat → Prop} {N : Nat} {m : Map} {S : St}

theorem go_mv {x : Operand} {y : Arg} (s : Sim w0 I Zc N m S a w) (ho : o.op = .move x ∨ o.op = .assign x) (hy : cArg x = some y) : Goes P o a w w0 Zc m S (S.val (y.ev S)) := by
  refine goes_val s (u := a.eval x) ?_ (arg_spec s hy)
  rcases ho with ho | ho <;> simp [execOp, ho]

theorem one_bool {w : World} {Z : Nat → Prop} {m : Map} {ob : Nm → Option Ob} {b : Bool} {v : Value} (h : AVR w Z m ob (.one (.t (.bool b))) v) : v = .bool b := by
  cases (show CR w Z (.bool b) v from h)
  rfl
theorem one_int {w : World} {Z : Nat → Prop} {m : Map} {ob : Nm → Option Ob} {k : IntKind} {n : Int} {v : Value} (h : AVR w Z m ob (.one (.t (.int k n))) v) : v = .int k n := by
  cases (show CR w Z (.int k n) v from h)
  rfl
theorem mk_bool {w : World} {Z : Nat → Prop} {m : Map} {ob : Nm → Option Ob} (b : Bool) : AVR w Z m ob (.one (.t (.bool b))) (.bool b) := CR.bool b
theorem mk_int {w : World} {Z : Nat → Prop} {m : Map} {ob : Nm → Option Ob} (k : IntKind) (n : Int) : AVR w Z m ob (.one (.t (.int k n))) (.int k n) := CR.int k n

theorem go_pick {c x y : Operand} {c' x' y' : Arg} {t : Bool} (s : Sim w0 I Zc N m S a w) (ho : o.op = .pick c x y) (hc : cArg c = some c') (hx : cArg x = some x') (hy : cArg y = some y')
    (ht : c'.ev S = .one (.t (.bool t))) : Goes P o a w w0 Zc m S (S.val (if t then x'.ev S else y'.ev S)) := by
  have h := arg_spec s hc
  rw [ht] at h
  refine goes_val s (u := if t then a.eval x else a.eval y) ?_ ?_
  · simp [execOp, ho, one_bool h, asBool]
  · cases t
    · exact arg_spec s hy
    · exact arg_spec s hx

theorem zeroOf_spec {t : TypeId} {l : List V1} (h : zeroOf P t = some l) : ∃ i z, P.info? t = some i ∧ i.zero = some z ∧ v1s z.cells.toList = some l := by
  simp only [zeroOf, Option.bind_eq_some_iff] at h
  obtain ⟨i, hi, z, hz, hl⟩ := h
  exact ⟨i, z, hi, hz, hl⟩

theorem go_alloc {e nm : Nat} {z : List V1} (s : Sim w0 I Zc N m S a w) (ho : o.op = .alloc e) (hz : zeroOf P e = some z) :
    Goes P o a w w0 Zc m S (S.new nm ⟨true, false, false, 0, 0, e, z⟩ (.one (.ptr (nm, S.cnt nm) 0))) := by
  obtain ⟨i, zv, hi, hzv, hl⟩ := zeroOf_spec hz
  have hc := v1s_spec (w := w) (Z := vol m S.ob Zc) (m := m) (ob := S.ob) hl
  refine goes_new s nm _ _ 0 zv.cells (u := .pointer (some ⟨w.heap.size, 0, none⟩)) ?_ ?_ (fun j v hv => ?_) (.inl ⟨rfl, rfl⟩)
  · simp [execOp, ho, Instr.alloc, zeroValue, typeInfo, hi, hzv, newVar, newRow, Result.andThen]
  · simpa using hc.1.symm
  · have hj : j < zv.cells.toList.length := by rw [← hc.1]; exact (List.getElem?_eq_some_iff.1 hv).1
    exact ⟨zv.cells.toList[j], by simp at hj; simp [hj], hc.2 j v _ hv (List.getElem?_eq_getElem hj)⟩

theorem go_box {e nm : Nat} {x : Operand} {y : Arg} {vs : List V1} (s : Sim w0 I Zc N m S a w) (ho : o.op = .box e x) (hy : cArg x = some y) (hv : (y.ev S).cells = some vs) :
    Goes P o a w w0 Zc m S (S.new nm ⟨true, false, false, 0, 0, e, vs⟩ (.one (.ptr (nm, S.cnt nm) 0))) := by
  have hc := cells_spec (arg_spec s hy) hv
  refine goes_new s nm _ _ 0 (a.eval x).cells (u := .pointer (some ⟨w.heap.size, 0, none⟩)) ?_ ?_ (fun j v hv => ?_) (.inl ⟨rfl, rfl⟩)
  · simp [execOp, ho, Instr.box, newVar, newRow, Result.andThen]
  · simpa using hc.1.symm
  · have hj : j < (a.eval x).cells.toList.length := by rw [← hc.1]; exact (List.getElem?_eq_some_iff.1 hv).1
    exact ⟨(a.eval x).cells.toList[j], by simp at hj; simp [hj], hc.2 j v _ hv (List.getElem?_eq_getElem hj)⟩

/-! ### Aggregates -/
theorem splice_length {α : Type} (l : List α) (off : Nat) (s : List α) (h : off + s.length ≤ l.length) : (splice l off s).length = l.length := by
  simp only [splice, List.length_append, List.length_take, List.length_drop]
  omega

theorem splice_get {α : Type} (l : List α) (off : Nat) (s : List α) (h : off + s.length ≤ l.length) (j : Nat) :
    (splice l off s)[j]? = if off ≤ j ∧ j < off + s.length then s[j - off]? else l[j]? := by
  have hlen : (l.take off).length = off := by rw [List.length_take]; omega
  rw [splice, List.append_assoc, List.getElem?_append, hlen]
  split
  · rw [if_neg (by omega), List.getElem?_take, if_pos (by omega)]
  · rw [List.getElem?_append]
    split
    · rw [if_pos (by omega)]
    · rw [if_neg (by omega), List.getElem?_drop]
      congr 1
      omega

theorem L1R.splice {w : World} {Z : Nat → Prop} {m : Map} {ob : Nm → Option Ob} {l vs : List V1} {us ns : List Value} (h : L1R w Z m ob l us) (h2 : L1R w Z m ob vs ns) {off : Nat} (hf : off + vs.length ≤ l.length) :
    L1R w Z m ob (splice l off vs) (Abs.splice us off ns) := by
  have e1 := h.1
  have e2 := h2.1
  refine ⟨by rw [splice_length _ _ _ hf, splice_length _ _ _ (by omega)]; exact h.1, fun j v u hv hu => ?_⟩
  rw [splice_get _ _ _ hf] at hv
  rw [splice_get _ _ _ (by omega)] at hu
  split at hv
  · rw [if_pos (by omega)] at hu
    exact h2.2 _ v u hv hu
  · rw [if_neg (by omega)] at hu
    exact h.2 _ v u hv hu

theorem setFold_spec : ∀ (vs : List Value) (i off : Nat) (l : Array Value), off + i + vs.length ≤ l.size →
    (((vs.zipIdx i).foldl (fun cs (c, j) => cs.setIfInBounds (off + j) c) l)).toList = Abs.splice l.toList (off + i) vs
  | [], i, off, l, h => by simp [Abs.splice]
  | v :: r, i, off, l, h => by
    simp only [List.length_cons] at h
    rw [List.zipIdx_cons, List.foldl_cons, setFold_spec r (i + 1) off _ (by simp; omega)]
    apply List.ext_getElem?
    intro j
    rw [splice_get _ _ _ (by simp; omega), splice_get _ _ _ (by simp; omega)]
    simp only [List.length_cons, Array.toList_setIfInBounds]
    by_cases h1 : off + (i + 1) ≤ j ∧ j < off + (i + 1) + r.length
    · rw [if_pos h1, if_pos (by omega)]
      rw [show j - (off + i) = (j - (off + (i + 1))) + 1 by omega]
      rfl
    · rw [if_neg h1]
      by_cases h2 : j = off + i
      · subst h2
        rw [if_pos (by omega), List.getElem?_set_self (by simp; omega)]
        simp
      · rw [if_neg (by omega), List.getElem?_set_ne (by omega)]

theorem fill_spec {w : World} {Z : Nat → Prop} (hw : Sim w0 I Zc N m S a w) (place : Nat → Option (Nat × Nat)) :
    ∀ (l : List (Nat × Operand)) (ps : List (Nat × Nat × Arg)) (z vs : List V1) (cells : Array Value), cParts place l = some ps → fillV S ps z = some vs →
      L1R w (vol m S.ob Zc) m S.ob z cells.toList → ∃ out, Instr.fill place cells (l.map fun (i, x) => (i, a.eval x)) = some out ∧ L1R w (vol m S.ob Zc) m S.ob vs out.toList
  | [], ps, z, vs, cells, h1, h2, h3 => by
    injection h1 with h1; subst h1
    injection h2 with h2; subst h2
    exact ⟨cells, rfl, h3⟩
  | (i, x) :: r, ps, z, vs, cells, h1, h2, h3 => by
    simp only [cParts, Option.bind_eq_some_iff, Option.map_eq_some_iff] at h1
    obtain ⟨p, hp, y, hy, ps', hps, rfl⟩ := h1
    simp only [fillV] at h2
    split at h2
    · rename_i vx hvx
      split at h2
      · rename_i hc
        have hl := cells_spec (arg_spec hw hy) hvx
        have e3 := h3.1
        have e4 := hl.1
        have hsz : (a.eval x).cells.size = p.2 := by rw [← Array.length_toList, ← hl.1]; exact hc.1
        have hcs : cells.size = z.length := by rw [← Array.length_toList]; exact h3.1.symm
        have ih := fill_spec (Z := Z) hw place r ps' _ vs (((a.eval x).cells.zipIdx.foldl (fun cs (c, j) => cs.setIfInBounds (p.1 + j) c) cells)) hps h2 (by
          have := setFold_spec (a.eval x).cells.toList 0 p.1 cells (by simp; omega)
          simp only [Nat.add_zero] at this
          rw [← Array.foldl_toList, Array.toList_zipIdx, this]
          exact h3.splice hl (by omega))
        obtain ⟨out, g1, g2⟩ := ih
        refine ⟨out, ?_, g2⟩
        obtain ⟨p1, p2⟩ := p
        simp only [List.map_cons, Instr.fill, hp]
        simp only at hsz hc
        rw [if_neg (by simp; omega)]
        exact g1
      · cases h2
    · cases h2

theorem go_build {t : TypeId} {parts : Array (Nat × Operand)} {z vs : List V1} {ps : List (Nat × Nat × Arg)} (s : Sim w0 I Zc N m S a w) (ho : o.op = .build t parts) (hz : zeroOf P t = some z)
    {fields : Array Field} {places : List (Nat × Nat)} (hu : P.underlying t = some (.struct fields))
    (hp : fields.toList.mapM (fun f => (P.info? f.type).map fun i => (f.offset, i.size)) = some places) (hps : cParts (places.toArray[·]?) parts.toList = some ps)
    (hv : fillV S ps z = some vs) : Goes P o a w w0 Zc m S (S.val (.agg vs)) := by
  obtain ⟨i, zv, hi, hzv, hl⟩ := zeroOf_spec hz
  obtain ⟨out, h1, h2⟩ := fill_spec (Z := fun _ => False) s _ _ _ _ _ zv.cells hps hv (v1s_spec hl)
  refine goes_val s (u := .agg out) ?_ ⟨out, rfl, h2⟩
  have hb : P.built t (parts.map fun (i, x) => (i, a.eval x)).toList = some out := by
    unfold Program.built
    simp only [hi, hu, hzv, hp, Array.toList_map]
    exact h1
  simp only [execOp, ho, Sem.run_bind, run_build w t _ out hb, Result.andThen_ok]
  rfl

theorem go_mkrow {t e len nm esz : Nat} {parts : Array (Nat × Operand)} {z vs ts : List V1} {ps : List (Nat × Nat × Arg)} (s : Sim w0 I Zc N m S a w) (ho : o.op = .buildSlice t len parts)
    (hu : P.underlying t = some (.slice e)) {i : TypeInfo} {zv : Value} (hi : P.info? e = some i) (hes : i.size = esz) (hpos : 0 < esz) (hzv : i.zero = some zv) (hzs : zv.cells.size = esz) (hmax : len * esz ≤ 2 ^ 24)
    (hz : v1s ((Array.range (len * esz)).map (zv.cells[· % zv.cells.size]!)).toList = some z)
    (hps : cParts (fun i => some (i * esz, esz)) parts.toList = some ps) (hv : fillV S ps z = some vs) (hts : trees vs = some ts) :
    Goes P o a w w0 Zc m S (if len = 0 then S.val (.one .nil) else S.new nm ⟨true, true, false, esz, len, e, ts⟩ (.one (.row (nm, S.cnt nm)))) := by
  subst hes
  obtain ⟨out, h1, h2⟩ := fill_spec (Z := fun _ => False) s _ _ _ _ _ _ hps hv (v1s_spec hz)
  have h3 := trees_spec hts h2
  have hlen : ts.length = len * i.size := by
    have g : ∀ (ps : List (Nat × Nat × Arg)) (z vs : List V1), fillV S ps z = some vs → vs.length = z.length := by
      intro ps
      induction ps with
      | nil => intro z vs h; injection h with h; rw [h]
      | cons p r ih =>
        intro z vs h
        obtain ⟨p1, p2, x⟩ := p
        simp only [fillV] at h
        split at h
        · split at h
          · rename_i hc
            rw [ih _ _ h, splice_length _ _ _ (by omega)]
          · cases h
        · cases h
    have := g _ _ _ hv
    have hz1 := (v1s_spec (w := w) (Z := fun _ => False) (m := m) (ob := S.ob) hz).1
    have ht : ts.length = vs.length := by rw [h3.1.1, h2.1]
    simp at hz1
    omega
  have hrun : (execOp a.eval o).run P w = .ok (.value (.slice (some ⟨w.heap.size, 0, none⟩) len len)) (w.alloc (.cells out e)) := by
    have hf : Instr.fill (fun i_1 => some (i_1 * i.size, i.size)) ((Array.range (len * i.size)).map (zv.cells[· % zv.cells.size]!)) (parts.map fun (i, x) => (i, a.eval x)).toList = some out := by
      rw [Array.toList_map]; exact h1
    simp only [execOp, ho, Instr.buildSlice, Sem.run_bind, run_underlying hu, Result.andThen_ok, sizeOf, typeInfo, run_program, hi, Sem.run_pure]
    rw [if_neg (by omega)]
    simp only [Sem.run_bind, Sem.run_pure, Result.andThen_ok, zeroValue, typeInfo, run_program, hi, hzv]
    by_cases hl0 : len * i.size = 0
    · rw [hl0] at hf
      rw [if_pos hl0, hl0]
      simp only [Sem.run_bind, Sem.run_pure, Result.andThen_ok]
      have hf2 : Instr.fill (fun i_1 => some (i_1 * i.size, i.size)) ((Array.range 0).map (fun x => ((#[] : Array Value)[x % (#[] : Array Value).size]!))) (parts.map fun (i, x) => (i, a.eval x)).toList = some out := by
        have e : (Array.range 0).map (fun x => ((#[] : Array Value)[x % (#[] : Array Value).size]!)) = (Array.range 0).map (zv.cells[· % zv.cells.size]!) := by simp
        rw [e]; exact hf
      simp only [hf2, newRow, Sem.run_bind, run_newObj, Result.andThen_ok, Sem.run_pure]
      rfl
    · simp only [if_neg hl0, Sem.run_bind, run_program, hi, hzv, Sem.run_pure, Result.andThen_ok, hf, newRow, run_newObj]
      rfl
  by_cases hl0 : len = 0
  · subst hl0
    rw [if_pos rfl]
    exact goes_nil s hrun (alloc_below w _)
  rw [if_neg hl0]
  refine goes_new s nm _ _ len out (u := .slice (some ⟨w.heap.size, 0, none⟩) len len) hrun ?_ (fun j v hv => ?_) (.inr ⟨rfl, rfl, rfl⟩)
  · simp only [if_true]
    have e9 : out.size = ts.length := by rw [h3.1.1, Array.length_toList]
    refine ⟨by rw [e9]; exact hlen, Nat.le_refl _, ?_, hlen, hpos, h3.2⟩
    have : len ≤ len * i.size := Nat.le_mul_of_pos_right _ hpos
    simp only [maxLen]
    omega
  · have hj : j < out.toList.length := by rw [← h3.1.1]; exact (List.getElem?_eq_some_iff.1 hv).1
    exact ⟨out.toList[j], by simp at hj; simp [hj], h3.1.2 j v _ hv (List.getElem?_eq_getElem hj)⟩
end ops
end Go.Proofs.Ythapbbpdcjmmfaa.Abs
