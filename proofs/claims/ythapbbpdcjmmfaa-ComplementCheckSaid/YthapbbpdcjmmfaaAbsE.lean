/-
  Regions whose order is open: run in the text's order, if what is unordered does not interfere. No condition beyond those that each statement names.
-/
import Derived.Test.YthapbbpdcjmmfaaAbsD
namespace Go.Proofs.Ythapbbpdcjmmfaa.Abs
open Go.RowKit
set_option linter.unusedVariables false
set_option linter.unusedSimpArgs false

def dstL : Option Nat → List SL
  | some t => [(0, t)]
  | none => []

def dAwpOp (P : Program) (S : St) (o : MOp) (K : Eff → Prop) : Prop := match o with
  | .call f nm args => ∃ g targs, f.ev S = .one (.fn g []) ∧ argTrees ⟨fun _ => .undef, S.ob, S.cnt⟩ (args.map (Arg.ev S)) = some targs ∧
      ((∃ r, CallOK P g targs r ∧ (r.plain || (args.map (Arg.ev S)).all (AV.still ⟨fun _ => .undef, S.ob, S.cnt⟩)) = true ∧ K (S.val r.av)) ∨
        ∃ typ esz n cs, CallRow P g targs typ esz n cs ∧ K (rowEff S nm typ esz n cs))
  | .isnil .. => False
  | .mkfn .. => False
  | o => thereIs (evOp S o) K

abbrev Log := List (List SL × List SL)

def drawOps (P : Program) : List MOper → St → Log → (St → Log → Prop) → Prop
  | [], S, L, Q => Q S L
  | o :: r, S, L, Q => match o.guard with
    | none => dAwpOp P S o.op fun E => drawOps P r (S.set o.dst E.v E.ob E.cnt) (L ++ [(opRd S o.op, dstL o.dst ++ opWr S o.op)]) Q
    | some (t, b) => ∃ b', gval (S.fr t) = some b' ∧
        (b' = some b → dAwpOp P S o.op fun E => drawOps P r (S.set o.dst E.v E.ob E.cnt) (L ++ [((0, t) :: opRd S o.op, dstL o.dst ++ opWr S o.op)]) Q) ∧
        (b' ≠ some b → drawOps P r (S.set o.dst .undef S.ob S.cnt) (L ++ [([(0, t)], dstL o.dst)]) Q)

def closAll : List (List Nat) → List (List Nat) → List (List Nat)
  | acc, [] => acc
  | acc, d :: r => closAll (acc ++ [(d ++ d.flatMap (fun j => acc.getD j [])).eraseDups]) r

def lowerAll : Nat → List (List Nat) → Bool
  | _, [] => true
  | i, d :: r => d.all (· < i) && lowerAll (i + 1) r

def disj (a b : List SL) : Bool := a.all fun x => !b.contains x

def indep (C : List (List Nat)) (L : Log) : Bool :=
  (List.range L.length).all fun i => (List.range L.length).all fun j =>
    i == j || (C.getD i []).contains j || (C.getD j []).contains i || (disj (L.getD i ([], [])).2 (L.getD j ([], [])).1 && disj (L.getD i ([], [])).2 (L.getD j ([], [])).2)

/-- The rule. -/
def DR (P : Program) (deps : List (List Nat)) (ops : List MOper) (S : St) (Q : St → Prop) : Prop :=
  drawOps P ops S [] fun S' L => (lowerAll 0 deps && indep (closAll [] deps) L) = true ∧ Q S'

/-! ### Reaching -/
inductive Reach (deps : List (List Nat)) : Nat → Nat → Prop
  | one {i j : Nat} (h : j ∈ deps.getD i []) : Reach deps i j
  | step {i k j : Nat} (h : k ∈ deps.getD i []) (r : Reach deps k j) : Reach deps i j

theorem closAll_spec {deps : List (List Nat)} : ∀ (r acc pre : List (List Nat)), deps = pre ++ r → acc.length = pre.length → (∀ i j, j ∈ acc.getD i [] → Reach deps i j) → ∀ i j, j ∈ (closAll acc r).getD i [] → Reach deps i j
  | [], acc, pre, _, _, h => h
  | d :: r, acc, pre, hd, hl, h => by
    refine closAll_spec r _ (pre ++ [d]) (by rw [hd]; simp) (by simp [hl]) fun i j hj => ?_
    by_cases hi : i < acc.length
    · rw [List.getD_eq_getElem?_getD, List.getElem?_append_left hi, ← List.getD_eq_getElem?_getD] at hj
      exact h i j hj
    · rw [List.getD_eq_getElem?_getD, List.getElem?_append_right (by omega)] at hj
      by_cases hi2 : i = acc.length
      · subst hi2
        simp only [Nat.sub_self, List.getElem?_cons_zero, Option.getD_some, List.mem_eraseDups, List.mem_append, List.mem_flatMap] at hj
        have hdi : deps.getD acc.length [] = d := by
          rw [hd, hl, List.getD_eq_getElem?_getD, List.getElem?_append_right (Nat.le_refl _)]
          simp
        rcases hj with hj | ⟨k, hk, hj⟩
        · exact .one (by rw [hdi]; exact hj)
        · exact .step (by rw [hdi]; exact hk) (h k j hj)
      · rw [List.getElem?_eq_none (by simp; omega)] at hj
        cases hj

theorem lowerAll_spec : ∀ (r : List (List Nat)) (b : Nat), lowerAll b r = true → ∀ i j, j ∈ r.getD i [] → j < b + i
  | [], b, _, i, j, hj => by simp at hj
  | d :: r, b, h, i, j, hj => by
    simp only [lowerAll, Bool.and_eq_true, List.all_eq_true, decide_eq_true_eq] at h
    cases i with
    | zero => exact h.1 j (by simpa using hj)
    | succ i =>
      have := lowerAll_spec r (b + 1) h.2 i j (by simpa using hj)
      omega

theorem Reach.lt {deps : List (List Nat)} (h : lowerAll 0 deps = true) {i j : Nat} (r : Reach deps i j) : j < i := by
  induction r with
  | one hj =>
    have := lowerAll_spec deps 0 h _ _ hj
    omega
  | step hk _ ih =>
    have := lowerAll_spec deps 0 h _ _ hk
    omega

/-- What has been done holds, with each operation, what this one waits for. -/
def Closed (deps : List (List Nat)) (D : Nat → Bool) : Prop := ∀ i, D i = true → ∀ j, j ∈ deps.getD i [] → D j = true

theorem Reach.closed {deps : List (List Nat)} {D : Nat → Bool} (hD : Closed deps D) {i j : Nat} (r : Reach deps i j) : (∀ k, k ∈ deps.getD i [] → D k = true) → D j = true := by
  induction r with
  | one h => exact fun hi => hi _ h
  | step h _ ih => exact fun hi => ih (hD _ (hi _ h))

/-! ### Merged states -/
def over (W : List SL) (T S : St) : St :=
  ⟨fun t => if (0, t) ∈ W then S.fr t else T.fr t, fun o => if (1, o.1) ∈ W then S.ob o else T.ob o, fun n => if (2, n) ∈ W then S.cnt n else T.cnt n⟩

theorem Same.refl (R : List SL) (T : St) : Same R T T := ⟨fun _ _ => rfl, fun _ _ => rfl, fun _ _ => rfl⟩
theorem Same.symm {R : List SL} {T S : St} (h : Same R T S) : Same R S T := ⟨fun t ht => (h.fr t ht).symm, fun o ho => (h.ob o ho).symm, fun n hn => (h.cnt n hn).symm⟩
theorem Same.trans {R : List SL} {T S U : St} (h : Same R T S) (k : Same R S U) : Same R T U := ⟨fun t ht => (h.fr t ht).trans (k.fr t ht), fun o ho => (h.ob o ho).trans (k.ob o ho), fun n hn => (h.cnt n hn).trans (k.cnt n hn)⟩

theorem over_in {W : List SL} {T S : St} {l : SL} (h : l ∈ W) : Same [l] (over W T S) S := by
  refine ⟨fun t ht => ?_, fun o ho => ?_, fun n hn => ?_⟩
  · have e : (0, t) = l := by simpa using ht
    simp [over, e, h]
  · have e : (1, o.1) = l := by simpa using ho
    simp [over, e, h]
  · have e : (2, n) = l := by simpa using hn
    simp [over, e, h]

theorem over_out {W : List SL} {T S : St} {l : SL} (h : l ∉ W) : Same [l] (over W T S) T := by
  refine ⟨fun t ht => ?_, fun o ho => ?_, fun n hn => ?_⟩
  · have e : (0, t) = l := by simpa using ht
    simp [over, e, h]
  · have e : (1, o.1) = l := by simpa using ho
    simp [over, e, h]
  · have e : (2, n) = l := by simpa using hn
    simp [over, e, h]

theorem st_ext {T S : St} (h : ∀ l, Same [l] T S) : T = S := by
  obtain ⟨f, o, c⟩ := T
  obtain ⟨f', o', c'⟩ := S
  congr
  · funext t; exact (h (0, t)).fr t (by simp)
  · funext x; exact (h (1, x.1)).ob x (by simp)
  · funext n; exact (h (2, n)).cnt n (by simp)

def mer (f : Nat → St) (W : Nat → List SL) (D : Nat → Bool) : Nat → St
  | 0 => f 0
  | i + 1 => if D i then over (W i) (mer f W D i) (f (i + 1)) else mer f W D i

theorem mer_same {f : Nat → St} {W : Nat → List SL} {D D' : Nat → Bool} {l : SL} : ∀ n, (∀ j, j < n → l ∈ W j → D j = D' j) → Same [l] (mer f W D n) (mer f W D' n)
  | 0, _ => Same.refl _ _
  | n + 1, h => by
    have ih := mer_same (f := f) (W := W) (D := D) (D' := D') (l := l) n fun j hj => h j (by omega)
    simp only [mer]
    by_cases hl : l ∈ W n
    · rw [h n (by omega) hl]
      split
      · exact (over_in hl).trans (over_in hl).symm
      · exact ih
    · have key : ∀ (b : Bool) (T : St), Same [l] (if b = true then over (W n) T (f (n + 1)) else T) T := by
        intro b T
        cases b
        · exact Same.refl _ _
        · exact over_out hl
      exact (key _ _).trans (ih.trans (key _ _).symm)

/-! ### One operation -/
def DoM (P : Program) (o : MOper) (T T' : St) : Prop := match o.guard with
  | none => ∃ E, dOp P T o.op E ∧ T' = T.set o.dst E.v E.ob E.cnt
  | some (t, b) => ∃ b', gval (T.fr t) = some b' ∧ ((b' = some b ∧ ∃ E, dOp P T o.op E ∧ T' = T.set o.dst E.v E.ob E.cnt) ∨ (b' ≠ some b ∧ T' = T.set o.dst .undef T.ob T.cnt))

structure Ev1 (P : Program) (o : MOper) (S S' : St) (R W : List SL) : Prop where
  out : ∀ l, l ∉ W → Same [l] S' S
  loc : ∀ T, Same R T S → ∃ T', DoM P o T T' ∧ (∀ l, l ∈ W → Same [l] T' S') ∧ (∀ l, l ∉ W → Same [l] T' T)

theorem opWr_kind {S : St} {o : MOp} {t : Nat} : (0, t) ∉ opWr S o := by
  have h1 : ∀ v : V1, (0, t) ∉ v.refs := fun v => by cases v <;> simp [V1.refs]
  have h2 : ∀ vs : List V1, (0, t) ∉ refsL vs := by
    intro vs
    induction vs with
    | nil => simp [refsL]
    | cons v r ih => simp [refsL, h1 v, ih]
  have h3 : ∀ v : AV, (0, t) ∉ v.refs := fun v => by
    cases v with
    | one v => exact h1 v
    | agg vs => exact h2 vs
    | _ => simp [AV.refs]
  cases o <;> simp [opWr, opNew, h3]

/-- One operation with its effect, between two states. -/
theorem set_out {S : St} {d : Option Nat} {v : AV} {ob : Nm → Option Ob} {cnt : Nat → Nat} {W : List SL} (h1 : ∀ x : Nm, (1, x.1) ∉ W → ob x = S.ob x) (h2 : ∀ n, (2, n) ∉ W → cnt n = S.cnt n) :
    ∀ l, l ∉ dstL d ++ W → Same [l] (S.set d v ob cnt) S := by
  intro l hl
  simp only [List.mem_append, not_or] at hl
  refine ⟨fun t ht => ?_, fun o ho => ?_, fun n hn => ?_⟩
  · have e : (0, t) = l := by simpa using ht
    cases d with
    | none => rfl
    | some q =>
      refine upd_ne _ _ ?_
      rintro rfl
      exact hl.1 (by simp [dstL, ← e])
  · have e : (1, o.1) = l := by simpa using ho
    exact h1 o (by rw [e]; exact hl.2)
  · have e : (2, n) = l := by simpa using hn
    exact h2 n (by rw [e]; exact hl.2)

theorem set_in {S T : St} {d : Option Nat} {v : AV} {ob ob' : Nm → Option Ob} {cnt cnt' : Nat → Nat} {W : List SL} (hk : ∀ t, (0, t) ∉ W) (h1 : ∀ x : Nm, (1, x.1) ∈ W → ob' x = ob x) (h2 : ∀ n, (2, n) ∈ W → cnt' n = cnt n) :
    ∀ l, l ∈ dstL d ++ W → Same [l] (T.set d v ob' cnt') (S.set d v ob cnt) := by
  intro l hl
  refine ⟨fun t ht => ?_, fun o ho => ?_, fun n hn => ?_⟩
  · have e : (0, t) = l := by simpa using ht
    subst e
    rcases List.mem_append.1 hl with h | h
    · cases d with
      | none => cases h
      | some q =>
        have : t = q := by simpa [dstL] using h
        subst this
        simp [St.set, upd]
    · exact absurd h (hk t)
  · have e : (1, o.1) = l := by simpa using ho
    subst e
    rcases List.mem_append.1 hl with h | h
    · cases d <;> simp [dstL] at h
    · exact h1 o h
  · have e : (2, n) = l := by simpa using hn
    subst e
    rcases List.mem_append.1 hl with h | h
    · cases d <;> simp [dstL] at h
    · exact h2 n h

section
variable {P : Program} {S : St}

theorem ev1_go {o : MOper} {E : Eff} {R : List SL} (h : dOp P S o.op E) (hg : match o.guard with | none => R = opRd S o.op | some (t, b) => gval (S.fr t) = some (some b) ∧ R = (0, t) :: opRd S o.op) :
    Ev1 P o S (S.set o.dst E.v E.ob E.cnt) R (dstL o.dst ++ opWr S o.op) := by
  obtain ⟨l1, l2, l3⟩ := dOp_local h
  refine ⟨set_out l1 l2, fun T hT => ?_⟩
  have hR : Same (opRd S o.op) T S := by
    split at hg
    · rw [← hg]; exact hT
    · exact hT.mono fun l hl => by rw [hg.2]; exact List.mem_cons_of_mem _ hl
  obtain ⟨E', e1, e2, e3, e4, e5, e6⟩ := l3 T hR
  refine ⟨T.set o.dst E'.v E'.ob E'.cnt, ?_, by rw [e2]; exact set_in (fun t => opWr_kind) e3 e5, set_out e4 e6⟩
  unfold DoM
  split at hg
  · exact ⟨E', e1, rfl⟩
  · rename_i t b h0
    exact ⟨some b, by rw [hT.fr t (by rw [hg.2]; simp)]; exact hg.1, .inl ⟨rfl, E', e1, rfl⟩⟩

theorem ev1_skip {o : MOper} {t : Nat} {b : Bool} {b' : Option Bool} (hg : o.guard = some (t, b)) (hv : gval (S.fr t) = some b') (hb : b' ≠ some b) :
    Ev1 P o S (S.set o.dst .undef S.ob S.cnt) [(0, t)] (dstL o.dst) := by
  refine ⟨fun l hl => set_out (W := []) (fun _ _ => rfl) (fun _ _ => rfl) l (by simpa using hl), fun T hT => ⟨T.set o.dst .undef T.ob T.cnt, ?_, fun l hl => ?_, fun l hl => set_out (W := []) (fun _ _ => rfl) (fun _ _ => rfl) l (by simpa using hl)⟩⟩
  · unfold DoM
    rw [hg]
    exact ⟨b', by rw [hT.fr t (by simp)]; exact hv, .inr ⟨hb, rfl⟩⟩
  · exact set_in (W := []) (fun t => by simp) (fun x hx => by cases hx) (fun n hn => by cases hn) l (by simpa using hl)

theorem dAwp_dOp {o : MOp} {K : Eff → Prop} (h : dAwpOp P S o K) : ∃ E, dOp P S o E ∧ K E := by
  cases o with
  | call f nm args =>
    obtain ⟨g, targs, h1, h2, ⟨r, h3, h4, h5⟩ | ⟨typ, esz, n, cs, h3, h5⟩⟩ := h
    · exact ⟨_, ⟨g, targs, h1, h2, .inl ⟨r, h3, h4, rfl⟩⟩, h5⟩
    · exact ⟨_, ⟨g, targs, h1, h2, .inr ⟨typ, esz, n, cs, h3, rfl⟩⟩, h5⟩
  | isnil => exact h.elim
  | mkfn => exact h.elim
  | _ => obtain ⟨E, he, hk⟩ := h; exact ⟨E, he, hk⟩

theorem draw_trace : ∀ (ops : List MOper) (S : St) (L : Log) (Q : St → Log → Prop), drawOps P ops S L Q → ∃ (f : Nat → St) (L1 : Log), f 0 = S ∧ L1.length = ops.length ∧ Q (f ops.length) (L ++ L1) ∧
    ∀ i o, ops[i]? = some o → Ev1 P o (f i) (f (i + 1)) (L1.getD i ([], [])).1 (L1.getD i ([], [])).2
  | [], S, L, Q, h => ⟨fun _ => S, [], rfl, rfl, by rw [List.append_nil]; exact h, fun i o hi => by simp at hi⟩
  | o :: r, S, L, Q, h => by
    have build : ∀ (S' : St) (R W : List SL), Ev1 P o S S' R W → drawOps P r S' (L ++ [(R, W)]) Q → ∃ (f : Nat → St) (L1 : Log), f 0 = S ∧ L1.length = (o :: r).length ∧ Q (f (o :: r).length) (L ++ L1) ∧
        ∀ i o', (o :: r)[i]? = some o' → Ev1 P o' (f i) (f (i + 1)) (L1.getD i ([], [])).1 (L1.getD i ([], [])).2 := by
      intro S' R W he hd
      obtain ⟨f, L1, h1, h2, h3, h4⟩ := draw_trace r S' _ Q hd
      refine ⟨fun i => match i with | 0 => S | i + 1 => f i, (R, W) :: L1, rfl, by simp [h2], by simpa using h3, fun i o' hi => ?_⟩
      cases i with
      | zero =>
        have : o = o' := by simpa using hi
        subst this
        show Ev1 P o S (f 0) R W
        rw [h1]
        exact he
      | succ i => exact h4 i o' (by simpa using hi)
    simp only [drawOps] at h
    split at h
    · rename_i hg
      obtain ⟨E, he, hk⟩ := dAwp_dOp h
      exact build _ _ _ (ev1_go he (by rw [hg])) hk
    · rename_i t b hg
      obtain ⟨b', hb, h1, h2⟩ := h
      by_cases e : b' = some b
      · subst e
        obtain ⟨E, he, hk⟩ := dAwp_dOp (h1 rfl)
        exact build _ _ _ (ev1_go he (by rw [hg]; exact ⟨hb, rfl⟩)) hk
      · exact build _ _ _ (ev1_skip hg hb e) (h2 e)
end
end Go.Proofs.Ythapbbpdcjmmfaa.Abs
