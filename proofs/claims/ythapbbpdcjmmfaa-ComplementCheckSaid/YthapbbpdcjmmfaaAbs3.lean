/-
  What one operation does to an abstract state, it does to a world. No condition beyond those that each statement names.
-/
import Derived.Test.YthapbbpdcjmmfaaAbs2
namespace Go.Proofs.Ythapbbpdcjmmfaa.Abs
open Go.RowKit
set_option linter.unusedVariables false

/-- The operation yields a value (or skips), and what the effect says holds behind it. -/
def Goes (P : Program) (o : Oper) (a : Act) (w w0 : World) (Zc : Nat → Prop) (m : Map) (S : St) (E : Eff) : Prop :=
  ∃ nx v w' m', (execOp a.eval o).run P w = .ok nx w' ∧ ((nx = .value v) ∨ (nx = .skip ∧ v = undef)) ∧ HR w0 Zc m' E.ob E.cnt w' ∧
    Ext w (vol m S.ob Zc) m S.ob w' (vol m' E.ob Zc) m' E.ob ∧ AVR w' (vol m' E.ob Zc) m' E.ob E.v v

theorem Ext.refl (w : World) (Z : Nat → Prop) (m : Map) (ob : Nm → Option Ob) : Ext w Z m ob w Z m ob :=
  ⟨Step.refl w Z, fun _ _ => rfl, fun _ _ => rfl, fun o x h => ⟨x, h, rfl, rfl⟩⟩

theorem goes_val {P : Program} {o : Oper} {a : Act} {w w0 : World} {I : Ini} {Zc : Nat → Prop} {N : Nat} {m : Map} {S : St} {v : AV} {u : Value}
    (s : Sim w0 I Zc N m S a w) (hr : (execOp a.eval o).run P w = .ok (.value u) w) (hv : AVR w (vol m S.ob Zc) m S.ob v u) : Goes P o a w w0 Zc m S (S.val v) :=
  ⟨_, u, w, m, hr, .inl rfl, s.heap, Ext.refl .., hv⟩

theorem V1R.one {w : World} {Z : Nat → Prop} {m : Map} {ob : Nm → Option Ob} {x : V1} {v : Value} (h : V1R w Z m ob x v) : v.oneCell' = true := by
  cases x with
  | t x => exact CR.one h
  | nil => obtain ⟨A, rfl⟩ := h; rfl
  | row o => obtain ⟨x, _, _, rfl⟩ := h; rfl
  | ptr o off => rw [h.2]; rfl
  | pro cs => obtain ⟨ad, rfl, _⟩ := h; rfl
  | fn f caps => rw [h.2]; rfl

theorem cells_one {v : Value} (h : v.oneCell' = true) : v.cells = #[v] := by cases v <;> simp_all [Value.oneCell', Value.cells]

theorem v1Of_spec {w : World} {Z : Nat → Prop} {m : Map} {ob : Nm → Option Ob} {v : Value} {x : V1} (h : v1Of v = some x) : V1R w Z m ob x v := by
  unfold v1Of at h
  split at h
  · injection h with h; subst h; exact .int _ _
  · injection h with h; subst h; exact .bool _
  · injection h with h; subst h; exact ⟨none, rfl⟩
  · cases h

theorem v1s_spec {w : World} {Z : Nat → Prop} {m : Map} {ob : Nm → Option Ob} : ∀ {l : List Value} {xs : List V1}, v1s l = some xs → L1R w Z m ob xs l
  | [], xs, h => by
    injection h with h; subst h
    exact ⟨rfl, fun j v u hv => by simp at hv⟩
  | v :: r, xs, h => by
    simp only [v1s, Option.bind_eq_some_iff, Option.map_eq_some_iff] at h
    obtain ⟨x, hx, ys, hy, rfl⟩ := h
    have ih := v1s_spec (w := w) (Z := Z) (m := m) (ob := ob) hy
    refine ⟨by simp [ih.1], fun j a u ha hu => ?_⟩
    cases j with
    | zero =>
      simp at ha hu
      subst ha hu
      exact v1Of_spec hx
    | succ j => exact ih.2 j a u (by simpa using ha) (by simpa using hu)

theorem cVal_spec {w : World} {Z : Nat → Prop} {m : Map} {ob : Nm → Option Ob} {v : Value} {x : AV} (h : cVal v = some x) : AVR w Z m ob x v := by
  unfold cVal at h
  split at h
  · simp only [Option.map_eq_some_iff] at h
    obtain ⟨l, hl, rfl⟩ := h
    exact ⟨_, rfl, v1s_spec hl⟩
  · simp only [Option.map_eq_some_iff] at h
    obtain ⟨l, hl, rfl⟩ := h
    exact v1Of_spec hl

theorem arg_spec {w w0 : World} {I : Ini} {Zc : Nat → Prop} {N : Nat} {m : Map} {S : St} {a : Act} (s : Sim w0 I Zc N m S a w) {x : Operand} {y : Arg} (h : cArg x = some y) :
    AVR w (vol m S.ob Zc) m S.ob (y.ev S) (a.eval x) := by
  cases x with
  | tmp t =>
    simp only [cArg] at h
    injection h with h; subst h
    exact s.fr t
  | const v =>
    simp only [cArg, Option.map_eq_some_iff] at h
    obtain ⟨l, hl, rfl⟩ := h
    exact cVal_spec hl
  | global g => cases h
  | func f =>
    simp only [cArg] at h
    injection h with h; subst h
    exact ⟨fun o ho => (by cases ho), rfl⟩

theorem cells_spec {w : World} {Z : Nat → Prop} {m : Map} {ob : Nm → Option Ob} {x : AV} {v : Value} {vs : List V1} (h : AVR w Z m ob x v) (hc : x.cells = some vs) :
    L1R w Z m ob vs v.cells.toList := by
  cases x with
  | one x =>
    injection hc with hc; subst hc
    rw [cells_one (V1R.one h)]
    refine ⟨rfl, fun j a u ha hu => ?_⟩
    cases j with
    | zero => simp at ha hu; subst ha hu; exact h
    | succ j => simp at ha
  | agg l =>
    injection hc with hc; subst hc
    obtain ⟨us, rfl, hl⟩ := h
    exact hl
  | tup l => cases hc
  | undef => cases hc

theorem L1R.ones {w : World} {Z : Nat → Prop} {m : Map} {ob : Nm → Option Ob} {xs : List V1} {us : List Value} (h : L1R w Z m ob xs us) : ∀ u ∈ us, u.oneCell' = true := by
  intro u hu
  obtain ⟨j, hj, rfl⟩ := List.mem_iff_getElem.1 hu
  have hx : j < xs.length := by rw [h.1]; exact hj
  exact V1R.one (h.2 j _ _ (List.getElem?_eq_getElem hx) (List.getElem?_eq_getElem hj))

/-! ### A new object -/
theorem HR.at_lt {w0 : World} {Zc : Nat → Prop} {m : Map} {ob : Nm → Option Ob} {cnt : Nat → Nat} {w : World} (h : HR w0 Zc m ob cnt w) {o : Nm} {x : Ob} (ho : ob o = some x) (hl : x.live = true) : m.at_ o < w.heap.size := by
  obtain ⟨_, arr, h1, _⟩ := h.obs o x ho hl
  exact (Array.getElem?_eq_some_iff.1 h1).1

theorem HR.size {w0 : World} {Zc : Nat → Prop} {m : Map} {ob : Nm → Option Ob} {cnt : Nat → Nat} {w : World} (h : HR w0 Zc m ob cnt w) : w0.heap.size ≤ w.heap.size := h.below.size

def Map.set (m : Map) (o : Nm) (b c : Nat) : Map := ⟨upd m.at_ o b, upd m.cap o c⟩

/-- What a world that has one block more says: everything lives on. -/
theorem ext_new_at {w0 w w' : World} {Zc : Nat → Prop} {m : Map} {ob : Nm → Option Ob} {cnt : Nat → Nat} (h : HR w0 Zc m ob cnt w) (nm : Nat) (x : Ob) (c g0 : Nat) (hg0 : w.heap.size ≤ g0)
    (hw : ∀ b, b < w.heap.size → w'.heap[b]? = w.heap[b]?) (hsz : w.heap.size ≤ w'.heap.size) :
    Ext w (vol m ob Zc) m ob w' (vol (m.set (nm, cnt nm) g0 c) (upd ob (nm, cnt nm) (some x)) Zc) (m.set (nm, cnt nm) g0 c) (upd ob (nm, cnt nm) (some x)) := by
  have hn : ob (nm, cnt nm) = none := h.fresh nm _ (Nat.le_refl _)
  have hne : ∀ o, ob o ≠ none → o ≠ (nm, cnt nm) := fun o ho e => ho (e ▸ hn)
  refine ⟨⟨fun b _ hb => hw b hb, fun b hb hz => ?_, hsz⟩, fun o ho => upd_ne _ _ (hne o ho), fun o ho => upd_ne _ _ (hne o ho), fun o y ho => ⟨y, ?_, rfl, rfl⟩⟩
  · rcases hz with hz | ⟨o, y, ho, hl, hf, e⟩
    · exact .inl hz
    · by_cases e' : o = (nm, cnt nm)
      · subst e'
        simp only [Map.set, upd_same] at e
        omega
      · rw [upd_ne _ _ e'] at ho
        simp only [Map.set, upd_ne _ _ e'] at e
        exact .inr ⟨o, y, ho, hl, hf, e⟩
  · rw [upd_ne _ _ (hne o (by rw [ho]; simp))]
    exact ho

theorem hr_new_at {w0 w w' : World} {Zc : Nat → Prop} {m : Map} {ob : Nm → Option Ob} {cnt : Nat → Nat} (h : HR w0 Zc m ob cnt w) (nm : Nat) (x : Ob) (c g0 : Nat) (hg0 : w.heap.size ≤ g0)
    (hb : Below w.heap.size w w')
    (hx : x.live = true → ∃ arr : Array Value, w'.heap[g0]? = some (.cells arr x.typ (0, 0)) ∧
      (if x.isRow then arr.size = c * x.esz ∧ x.n ≤ c ∧ c ≤ maxLen ∧ x.cells.length = x.n * x.esz ∧ 0 < x.esz ∧ (∀ v ∈ x.cells, ∃ c, v = .t c) else arr.size = x.cells.length) ∧
      (∀ (j : Nat) v, x.cells[j]? = some v → ∃ u, arr[j]? = some u ∧ V1R w (vol m ob Zc) m ob v u)) :
    HR w0 Zc (m.set (nm, cnt nm) g0 c) (upd ob (nm, cnt nm) (some x)) (upd cnt nm (cnt nm + 1)) w' := by
  have e := ext_new_at (w' := w') h nm x c g0 hg0 hb.block hb.size
  have hn : ob (nm, cnt nm) = none := h.fresh nm _ (Nat.le_refl _)
  refine ⟨h.below.trans (hb.mono h.size), h.zc, fun n g hg => ?_, fun o y ho hl => ?_, fun o y o' y' ho hl ho' hl' he => ?_⟩
  · by_cases e1 : n = nm
    · subst e1
      rw [upd_same] at hg
      rw [upd_ne _ _ (by intro e2; injection e2; omega)]
      exact h.fresh n g (by omega)
    · rw [upd_ne _ _ e1] at hg
      rw [upd_ne _ _ (by intro e2; injection e2; exact e1 (by assumption))]
      exact h.fresh n g hg
  · by_cases e1 : o = (nm, cnt nm)
    · subst e1
      rw [upd_same] at ho
      injection ho with ho
      subst ho
      obtain ⟨arr, h1, h2, h3⟩ := hx hl
      refine ⟨by simp only [Map.set, upd_same]; exact Nat.le_trans h.size hg0, arr, by simp only [Map.set, upd_same]; exact h1, by simp only [Map.set, upd_same]; exact h2, fun j v hv => ?_⟩
      obtain ⟨u, g1, g2⟩ := h3 j v hv
      exact ⟨u, g1, V1R.one g2, V1R.ext e g2⟩
    · rw [upd_ne _ _ e1] at ho
      exact OR.ext e (by rw [ho]; simp) (hb.block _ (h.at_lt ho hl)) (h.obs o y ho hl)
  · by_cases e1 : o = (nm, cnt nm) <;> by_cases e2 : o' = (nm, cnt nm)
    · rw [e1, e2]
    · subst e1
      rw [upd_ne _ _ e2] at ho'
      simp only [Map.set, upd_same, upd_ne _ _ e2] at he
      have := h.at_lt ho' hl'
      omega
    · subst e2
      rw [upd_ne _ _ e1] at ho
      simp only [Map.set, upd_same, upd_ne _ _ e1] at he
      have := h.at_lt ho hl
      omega
    · rw [upd_ne _ _ e1] at ho
      rw [upd_ne _ _ e2] at ho'
      simp only [Map.set, upd_ne _ _ e1, upd_ne _ _ e2] at he
      exact h.inj o y o' y' ho hl ho' hl' he

theorem ext_new {w0 w w' : World} {Zc : Nat → Prop} {m : Map} {ob : Nm → Option Ob} {cnt : Nat → Nat} (h : HR w0 Zc m ob cnt w) (nm : Nat) (x : Ob) (c : Nat)
    (hw : ∀ b, b < w.heap.size → w'.heap[b]? = w.heap[b]?) (hsz : w.heap.size ≤ w'.heap.size) :
    Ext w (vol m ob Zc) m ob w' (vol (m.set (nm, cnt nm) w.heap.size c) (upd ob (nm, cnt nm) (some x)) Zc) (m.set (nm, cnt nm) w.heap.size c) (upd ob (nm, cnt nm) (some x)) := ext_new_at h nm x c _ (Nat.le_refl _) hw hsz

theorem hr_new {w0 w w' : World} {Zc : Nat → Prop} {m : Map} {ob : Nm → Option Ob} {cnt : Nat → Nat} (h : HR w0 Zc m ob cnt w) (nm : Nat) (x : Ob) (c : Nat)
    (hb : Below w.heap.size w w')
    (hx : x.live = true → ∃ arr : Array Value, w'.heap[w.heap.size]? = some (.cells arr x.typ (0, 0)) ∧
      (if x.isRow then arr.size = c * x.esz ∧ x.n ≤ c ∧ c ≤ maxLen ∧ x.cells.length = x.n * x.esz ∧ 0 < x.esz ∧ (∀ v ∈ x.cells, ∃ c, v = .t c) else arr.size = x.cells.length) ∧
      (∀ (j : Nat) v, x.cells[j]? = some v → ∃ u, arr[j]? = some u ∧ V1R w (vol m ob Zc) m ob v u)) :
    HR w0 Zc (m.set (nm, cnt nm) w.heap.size c) (upd ob (nm, cnt nm) (some x)) (upd cnt nm (cnt nm + 1)) w' := hr_new_at h nm x c _ (Nat.le_refl _) hb hx

theorem alloc_new (w : World) (x : Obj) : (w.alloc x).heap[w.heap.size]? = some x := heap_alloc_new w x
theorem alloc_below (w : World) (x : Obj) : Below w.heap.size w (w.alloc x) := (Below.refl _ w).alloc (Nat.le_refl _) x

/-- An operation that lays a new block with these cells. -/
theorem goes_new {P : Program} {o : Oper} {a : Act} {w w0 : World} {I : Ini} {Zc : Nat → Prop} {N : Nat} {m : Map} {S : St} {u : Value}
    (s : Sim w0 I Zc N m S a w) (nm : Nat) (x : Ob) (v : AV) (c : Nat) (arr : Array Value)
    (hr : (execOp a.eval o).run P w = .ok (.value u) (w.alloc (.cells arr x.typ)))
    (h2 : if x.isRow then arr.size = c * x.esz ∧ x.n ≤ c ∧ c ≤ maxLen ∧ x.cells.length = x.n * x.esz ∧ 0 < x.esz ∧ (∀ v ∈ x.cells, ∃ c, v = .t c) else arr.size = x.cells.length)
    (h3 : ∀ (j : Nat) v, x.cells[j]? = some v → ∃ u, arr[j]? = some u ∧ V1R w (vol m S.ob Zc) m S.ob v u)
    (hu : (v = .one (.ptr (nm, S.cnt nm) 0) ∧ u = .pointer (some ⟨w.heap.size, 0, none⟩)) ∨ (x.isRow = true ∧ v = .one (.row (nm, S.cnt nm)) ∧ u = .slice (some ⟨w.heap.size, 0, none⟩) x.n c)) :
    Goes P o a w w0 Zc m S (S.new nm x v) := by
  refine ⟨_, u, _, m.set (nm, S.cnt nm) w.heap.size c, hr, .inl rfl, hr_new s.heap nm x c (alloc_below w _) (fun _ => ⟨arr, alloc_new w _, h2, h3⟩),
    ext_new s.heap nm x c (fun b hb => (alloc_below w _).block b hb) (alloc_below w _).size, ?_⟩
  rcases hu with ⟨rfl, rfl⟩ | ⟨hrow, rfl, rfl⟩
  · exact ⟨by simp [St.new, upd_same], by simp [Map.set, upd_same]⟩
  · exact ⟨x, by simp [St.new, upd_same], hrow, by simp [Map.set, upd_same]⟩

/-- An operation that lays a new block of no cell, which nobody needs. -/
theorem goes_nil {P : Program} {o : Oper} {a : Act} {w w0 w' : World} {I : Ini} {Zc : Nat → Prop} {N : Nat} {m : Map} {S : St} {A : Option Addr}
    (s : Sim w0 I Zc N m S a w) (hr : (execOp a.eval o).run P w = .ok (.value (.slice A 0 0)) w') (hb : Below w.heap.size w w') : Goes P o a w w0 Zc m S (S.val (.one .nil)) := by
  have ex : Ext w (vol m S.ob Zc) m S.ob w' (vol m S.ob Zc) m S.ob := ⟨⟨fun q _ hq => hb.block q hq, fun _ _ h => h, hb.size⟩, fun _ _ => rfl, fun _ _ => rfl, fun p y h => ⟨y, h, rfl, rfl⟩⟩
  refine ⟨_, _, w', m, hr, .inl rfl, ⟨s.heap.below.trans (hb.mono s.heap.size), s.heap.zc, s.heap.fresh, fun p y hp hl => ?_, s.heap.inj⟩, ex, ⟨A, rfl⟩⟩
  exact OR.ext ex (by rw [show S.ob p = some y from hp]; simp) (hb.block _ (s.heap.at_lt hp hl)) (s.heap.obs p y hp hl)

theorem live_spec {S : St} {o : Nm} {x : Ob} (h : S.live o = some x) : S.ob o = some x ∧ x.live = true := by
  unfold St.live at h
  split at h
  · rename_i y hy
    split at h
    · rename_i hl
      injection h with h
      subst h
      exact ⟨hy, hl⟩
    · cases h
  · cases h

theorem trees_spec {w : World} {Z : Nat → Prop} {m : Map} {ob : Nm → Option Ob} : ∀ {vs ts : List V1} {us : List Value}, trees vs = some ts → L1R w Z m ob vs us →
    L1R w Z m ob ts us ∧ ∀ v ∈ ts, ∃ c, v = .t c
  | [], ts, us, h, hl => by
    injection h with h; subst h
    exact ⟨hl, fun v hv => by cases hv⟩
  | v :: r, ts, us, h, hl => by
    simp only [trees, Option.bind_eq_some_iff, Option.map_eq_some_iff] at h
    obtain ⟨x, hx, ys, hy, rfl⟩ := h
    cases us with
    | nil => exact absurd hl.1 (by simp)
    | cons u us =>
      have ih := trees_spec (w := w) (Z := Z) (m := m) (ob := ob) (us := us) hy ⟨by simpa using hl.1, fun j a b ha hb => hl.2 (j + 1) a b (by simpa using ha) (by simpa using hb)⟩
      refine ⟨⟨by simpa using ih.1.1, fun j a b ha hb => ?_⟩, fun a ha => ?_⟩
      · cases j with
        | zero =>
          simp at ha hb
          subst ha hb
          have h0 := hl.2 0 v u rfl rfl
          cases v with
          | t c => injection hx with hx; subst hx; exact h0
          | nil =>
            injection hx with hx; subst hx
            obtain ⟨A, rfl⟩ : ∃ A, u = .slice A 0 0 := h0
            exact .sl 0 0 [] A (fun _ => default) (Nat.le_refl _) (fun h => by simp at h) (fun j c h => by simp at h)
          | row o => cases hx
          | ptr o off => cases hx
          | pro cs => cases hx
          | fn f caps => cases hx
        | succ j => exact ih.1.2 j a b (by simpa using ha) (by simpa using hb)
      · rcases List.mem_cons.1 ha with rfl | ha
        · exact ⟨_, rfl⟩
        · exact ih.2 a ha
end Go.Proofs.Ythapbbpdcjmmfaa.Abs
