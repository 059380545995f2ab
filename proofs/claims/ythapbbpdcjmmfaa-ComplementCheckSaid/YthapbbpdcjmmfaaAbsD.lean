/-
  Regions whose order is open: what an operation reads and writes, and that it depends on nothing else. No condition beyond those that each statement names.
-/
import Derived.Test.YthapbbpdcjmmfaaAbsC
namespace Go.Proofs.Ythapbbpdcjmmfaa.Abs
open Go.RowKit
set_option linter.unusedVariables false
set_option linter.unusedSimpArgs false

/-- A place, by its static name: (0, t) a variable, (1, nm) objects, (2, nm) a count. -/
abbrev SL := Nat × Nat

structure Same (R : List SL) (T S : St) : Prop where
  fr : ∀ t, (0, t) ∈ R → T.fr t = S.fr t
  ob : ∀ o : Nm, (1, o.1) ∈ R → T.ob o = S.ob o
  cnt : ∀ n, (2, n) ∈ R → T.cnt n = S.cnt n

def Arg.rd : Arg → List SL
  | .tmp t => [(0, t)]
  | _ => []

def V1.refs : V1 → List SL
  | .ptr o _ => [(1, o.1)]
  | .row o => [(1, o.1)]
  | _ => []

def refsL : List V1 → List SL
  | [] => []
  | v :: r => v.refs ++ refsL r

def AV.refs : AV → List SL
  | .one v => v.refs
  | .agg vs => refsL vs
  | _ => []

def argRd (S : St) (x : Arg) : List SL := x.rd ++ (x.ev S).refs

def argsRd (S : St) : List Arg → List SL
  | [] => []
  | x :: r => argRd S x ++ argsRd S r

def opArgs : MOp → List Arg
  | .mv _ => []
  | .box _ _ x | .load _ _ x | .nilck x | .not x | .conv _ x | .fieldA _ x | .extract x _ | .len x | .isnil _ x => [x]
  | .pick c a b => [c, a, b]
  | .alloc .. => []
  | .build _ ps | .mkrow _ _ _ _ _ ps => ps.map (·.2.2)
  | .store _ a x => [a, x]
  | .bin _ x y | .eqS _ _ x y | .minmax _ x y | .append _ _ _ _ x y => [x, y]
  | .mkfn _ cs => cs
  | .make _ _ _ _ _ l c => [l, c]
  | .idxA _ x i | .idxArr _ _ x i => [x, i]
  | .call f _ args => f :: args

def opNew : MOp → List SL
  | .alloc nm .. | .box nm .. | .mkrow nm .. | .make nm .. | .append nm .. | .call _ nm _ => [(1, nm), (2, nm)]
  | _ => []

/-- A move reads its variable alone, not what that leads to. -/
def opNewR : MOp → List SL
  | .mv x => x.rd
  | o => opNew o

def opRd (S : St) (o : MOp) : List SL := argsRd S (opArgs o) ++ opNewR o

def opWr (S : St) : MOp → List SL
  | .store _ a _ => (a.ev S).refs
  | .append nm _ _ _ x _ => (x.ev S).refs ++ [(1, nm), (2, nm)]
  | o => opNew o

/-- What an operation of a region may do there: no closures, no questions that stay open. -/
def dOp (P : Program) (S : St) (o : MOp) (E : Eff) : Prop := match o with
  | .call f nm args => ∃ g targs, f.ev S = .one (.fn g []) ∧ argTrees ⟨fun _ => .undef, S.ob, S.cnt⟩ (args.map (Arg.ev S)) = some targs ∧
      ((∃ r, CallOK P g targs r ∧ (r.plain || (args.map (Arg.ev S)).all (AV.still ⟨fun _ => .undef, S.ob, S.cnt⟩)) = true ∧ E = S.val r.av) ∨
        ∃ typ esz n cs, CallRow P g targs typ esz n cs ∧ E = rowEff S nm typ esz n cs)
  | .isnil .. => False
  | .mkfn .. => False
  | o => evOp S o = some E

/-- Only what it reads counts; only what it writes turns. -/
def Local (P : Program) (o : MOp) (S : St) (E : Eff) : Prop :=
  (∀ x : Nm, (1, x.1) ∉ opWr S o → E.ob x = S.ob x) ∧ (∀ n, (2, n) ∉ opWr S o → E.cnt n = S.cnt n) ∧
  ∀ T, Same (opRd S o) T S → ∃ E', dOp P T o E' ∧ E'.v = E.v ∧ (∀ x : Nm, (1, x.1) ∈ opWr S o → E'.ob x = E.ob x) ∧ (∀ x : Nm, (1, x.1) ∉ opWr S o → E'.ob x = T.ob x) ∧
    (∀ n, (2, n) ∈ opWr S o → E'.cnt n = E.cnt n) ∧ (∀ n, (2, n) ∉ opWr S o → E'.cnt n = T.cnt n)

theorem Same.mono {R R' : List SL} {T S : St} (h : Same R T S) (hr : ∀ l, l ∈ R' → l ∈ R) : Same R' T S := ⟨fun t ht => h.fr t (hr _ ht), fun o ho => h.ob o (hr _ ho), fun n hn => h.cnt n (hr _ hn)⟩

section
variable {S T : St}

theorem argRd_ev {x : Arg} (h : Same (argRd S x) T S) : x.ev T = x.ev S := by
  cases x with
  | tmp t => exact h.fr t (by simp [argRd, Arg.rd])
  | c v => rfl

theorem argRd_ob {x : Arg} (h : Same (argRd S x) T S) : ∀ o : Nm, (1, o.1) ∈ (x.ev S).refs → T.ob o = S.ob o := fun o ho => h.ob o (by simp [argRd, ho])

theorem argsRd_mem {xs : List Arg} {x : Arg} (hx : x ∈ xs) {l : SL} (h : l ∈ argRd S x) : l ∈ argsRd S xs := by
  induction xs with
  | nil => cases hx
  | cons y r ih =>
    rcases List.mem_cons.1 hx with rfl | hx
    · exact List.mem_append_left _ h
    · exact List.mem_append_right _ (ih hx)

theorem argsRd_one {xs : List Arg} (h : Same (argsRd S xs) T S) {x : Arg} (hx : x ∈ xs) : Same (argRd S x) T S := h.mono fun l hl => argsRd_mem hx hl

theorem live_eq {o : Nm} (h : T.ob o = S.ob o) : T.live o = S.live o := by simp [St.live, h]

theorem rdAt_eq {sz : Nat} {v : AV} (h : ∀ o : Nm, (1, o.1) ∈ v.refs → T.ob o = S.ob o) : rdAt T sz v = rdAt S sz v := by
  unfold rdAt
  split
  · rename_i o off
    rw [live_eq (h o (by simp [AV.refs, V1.refs]))]
  · rfl
  · rfl

theorem sliceOf_eq {v : AV} (h : ∀ o : Nm, (1, o.1) ∈ v.refs → T.ob o = S.ob o) : sliceOf T v = sliceOf S v := by
  unfold sliceOf
  split
  · rfl
  · rfl
  · rename_i o
    rw [live_eq (h o (by simp [AV.refs, V1.refs]))]
  · rfl

theorem fillV_eq : ∀ {ps : List (Nat × Nat × Arg)} {l : List V1}, Same (argsRd S (ps.map (·.2.2))) T S → fillV T ps l = fillV S ps l
  | [], l, h => rfl
  | (off, sz, x) :: r, l, h => by
    simp only [List.map_cons] at h
    have hx := argsRd_one h (List.mem_cons_self ..)
    simp only [fillV, argRd_ev hx]
    split
    · split
      · exact fillV_eq (h.mono fun l hl => List.mem_append_right _ hl)
      · rfl
    · rfl

theorem treeCell_eq {v : V1} (h : ∀ o : Nm, (1, o.1) ∈ v.refs → T.ob o = S.ob o) : treeCell T v = treeCell S v := by
  cases v with
  | row o => simp only [treeCell, live_eq (h o (by simp [V1.refs]))]
  | _ => rfl

theorem treeCells_eq : ∀ {vs : List V1}, (∀ o : Nm, (1, o.1) ∈ refsL vs → T.ob o = S.ob o) → treeCells T vs = treeCells S vs
  | [], h => rfl
  | v :: r, h => by
    simp only [treeCells, treeCell_eq (T := T) (S := S) (v := v) fun o ho => h o (List.mem_append_left _ ho), treeCells_eq (vs := r) fun o ho => h o (List.mem_append_right _ ho)]

theorem argTree_eq {v : AV} (h : ∀ o : Nm, (1, o.1) ∈ v.refs → T.ob o = S.ob o) : argTree T v = argTree S v := by
  cases v with
  | one v => simp only [argTree, treeCell_eq (T := T) (S := S) (v := v) h]
  | agg vs => simp only [argTree, treeCells_eq (T := T) (S := S) (vs := vs) h]
  | _ => rfl

theorem still1_eq {v : V1} (h : ∀ o : Nm, (1, o.1) ∈ v.refs → T.ob o = S.ob o) : v.still T = v.still S := by
  cases v with
  | row o => simp only [V1.still, live_eq (h o (by simp [V1.refs]))]
  | _ => rfl

theorem stills_eq : ∀ {vs : List V1}, (∀ o : Nm, (1, o.1) ∈ refsL vs → T.ob o = S.ob o) → vs.all (V1.still T) = vs.all (V1.still S)
  | [], h => rfl
  | v :: r, h => by
    simp only [List.all_cons, still1_eq (T := T) (S := S) (v := v) fun o ho => h o (List.mem_append_left _ ho), stills_eq (vs := r) fun o ho => h o (List.mem_append_right _ ho)]

theorem still_eq {v : AV} (h : ∀ o : Nm, (1, o.1) ∈ v.refs → T.ob o = S.ob o) : v.still T = v.still S := by
  cases v with
  | one v => exact still1_eq h
  | agg vs => exact stills_eq h
  | _ => rfl

theorem evs_eq : ∀ {xs : List Arg}, Same (argsRd S xs) T S → xs.map (Arg.ev T) = xs.map (Arg.ev S)
  | [], h => rfl
  | x :: r, h => by
    simp only [List.map_cons, argRd_ev (argsRd_one h (List.mem_cons_self ..)), evs_eq (xs := r) (h.mono fun l hl => List.mem_append_right _ hl)]

theorem argTrees_eq : ∀ {xs : List Arg}, Same (argsRd S xs) T S → argTrees ⟨fun _ => .undef, T.ob, T.cnt⟩ (xs.map (Arg.ev S)) = argTrees ⟨fun _ => .undef, S.ob, S.cnt⟩ (xs.map (Arg.ev S)) ∧
    (xs.map (Arg.ev S)).all (AV.still ⟨fun _ => .undef, T.ob, T.cnt⟩) = (xs.map (Arg.ev S)).all (AV.still ⟨fun _ => .undef, S.ob, S.cnt⟩)
  | [], h => ⟨rfl, rfl⟩
  | x :: r, h => by
    have hx := argRd_ob (argsRd_one h (List.mem_cons_self ..))
    obtain ⟨i1, i2⟩ := argTrees_eq (xs := r) (h.mono fun l hl => List.mem_append_right _ hl)
    constructor
    · simp only [List.map_cons, argTrees, i1, argTree_eq (T := ⟨fun _ => .undef, T.ob, T.cnt⟩) (S := ⟨fun _ => .undef, S.ob, S.cnt⟩) (v := x.ev S) hx]
    · simp only [List.map_cons, List.all_cons, i2, still_eq (T := ⟨fun _ => .undef, T.ob, T.cnt⟩) (S := ⟨fun _ => .undef, S.ob, S.cnt⟩) (v := x.ev S) hx]
end

section
variable {P : Program} {S : St}

/-- An operation that yields a value alone. -/
theorem local_val {o : MOp} {v : AV} (hn : opWr S o = []) (h : ∀ T, Same (opRd S o) T S → dOp P T o (T.val v)) : Local P o S (S.val v) :=
  ⟨fun _ _ => rfl, fun _ _ => rfl, fun T hT => ⟨T.val v, h T hT, rfl, fun x hx => (by rw [hn] at hx; cases hx), fun _ _ => rfl, fun n hx => (by rw [hn] at hx; cases hx), fun _ _ => rfl⟩⟩

/-- An operation that makes an object. -/
theorem local_new {o : MOp} {nm : Nat} {x : Ob} {v : Nm → AV} (hn : opWr S o = [(1, nm), (2, nm)]) (hr : ∀ l, l ∈ [(1, nm), (2, nm)] → l ∈ opRd S o) (h : ∀ T, Same (opRd S o) T S → dOp P T o (T.new nm x (v (nm, T.cnt nm)))) : Local P o S (S.new nm x (v (nm, S.cnt nm))) := by
  refine ⟨fun y hy => ?_, fun n hy => ?_, fun T hT => ⟨_, h T hT, ?_, fun y hy => ?_, fun y hy => ?_, fun n hy => ?_, fun n hy => ?_⟩⟩
  · rw [hn] at hy
    refine upd_ne _ _ ?_
    rintro rfl
    simp at hy
  · rw [hn] at hy
    refine upd_ne _ _ ?_
    rintro rfl
    simp at hy
  · show v (nm, T.cnt nm) = v (nm, S.cnt nm)
    rw [hT.cnt nm (hr _ (by simp))]
  · rw [hn] at hy
    have hy : y.1 = nm := by simpa using hy
    show upd T.ob (nm, T.cnt nm) (some x) y = upd S.ob (nm, S.cnt nm) (some x) y
    rw [hT.cnt nm (hr _ (by simp))]
    unfold upd
    split
    · rfl
    · exact hT.ob y (hr _ (by simp [hy]))
  · rw [hn] at hy
    refine upd_ne _ _ ?_
    rintro rfl
    simp at hy
  · rw [hn] at hy
    have hy : n = nm := by simpa using hy
    subst hy
    show upd T.cnt n _ n = upd S.cnt n _ n
    rw [upd_same, upd_same, hT.cnt n (hr _ (by simp))]
  · rw [hn] at hy
    refine upd_ne _ _ ?_
    rintro rfl
    simp at hy

/-- An operation that might have made an object, and yields a value alone. -/
theorem local_nil {o : MOp} {nm : Nat} {v : AV} (hn : opWr S o = [(1, nm), (2, nm)]) (hr : ∀ l, l ∈ [(1, nm), (2, nm)] → l ∈ opRd S o) (h : ∀ T, Same (opRd S o) T S → dOp P T o (T.val v)) : Local P o S (S.val v) := by
  refine ⟨fun _ _ => rfl, fun _ _ => rfl, fun T hT => ⟨T.val v, h T hT, rfl, fun z hz => ?_, fun _ _ => rfl, fun n hz => ?_, fun _ _ => rfl⟩⟩
  · rw [hn] at hz
    have hz : z.1 = nm := by simpa using hz
    exact hT.ob z (hr _ (by simp [hz]))
  · rw [hn] at hz
    have hz : n = nm := by simpa using hz
    exact hT.cnt n (hr _ (by simp [hz]))

theorem opRd_arg {o : MOp} {T : St} (h : Same (opRd S o) T S) {x : Arg} (hx : x ∈ opArgs o) : Same (argRd S x) T S := h.mono fun l hl => List.mem_append_left _ (argsRd_mem hx hl)
theorem opRd_ev {o : MOp} {T : St} (h : Same (opRd S o) T S) {x : Arg} (hx : x ∈ opArgs o) : x.ev T = x.ev S := argRd_ev (opRd_arg h hx)

set_option maxHeartbeats 2000000 in
theorem dOp_local {o : MOp} {E : Eff} (h : dOp P S o E) : Local P o S E := by
  cases o with
  | mv x =>
    injection h with h; subst h
    refine local_val rfl fun T hT => ?_
    have e : x.ev T = x.ev S := by
      cases x with
      | tmp t => exact hT.fr t (by simp [opRd, opNewR, opArgs, argsRd, Arg.rd])
      | c v => rfl
    simp [dOp, evOp, e]
  | pick c a b =>
    simp only [dOp, evOp] at h
    split at h
    · rename_i t ht
      injection h with h; subst h
      refine local_val rfl fun T hT => ?_
      simp only [dOp, evOp, opRd_ev hT (x := c) (by simp [opArgs]), opRd_ev hT (x := a) (by simp [opArgs]), opRd_ev hT (x := b) (by simp [opArgs]), ht]
    · cases h
  | alloc nm typ zero =>
    injection h with h; subst h
    exact local_new (v := fun n => .one (.ptr n 0)) rfl (fun l hl => List.mem_append_right _ hl) fun T hT => rfl
  | box nm typ x =>
    simp only [dOp, evOp] at h
    split at h
    · rename_i vs hvs
      injection h with h; subst h
      exact local_new (v := fun n => .one (.ptr n 0)) rfl (fun l hl => List.mem_append_right _ hl) fun T hT => by simp only [dOp, evOp, opRd_ev hT (x := x) (by simp [opArgs]), hvs]
    · cases h
  | build zero parts =>
    simp only [dOp, evOp] at h
    split at h
    · rename_i vs hvs
      injection h with h; subst h
      exact local_val rfl fun T hT => by simp only [dOp, evOp, fillV_eq (T := T) (S := S) (ps := parts) (hT.mono fun l hl => List.mem_append_left _ hl), hvs]
    · cases h
  | mkrow nm typ esz len zero parts =>
    simp only [dOp, evOp] at h
    split at h
    · rename_i vs hvs
      split at h
      · rename_i ts hts
        have key : ∀ T, Same (opRd S (.mkrow nm typ esz len zero parts)) T S → fillV T parts zero = some vs := fun T hT => by
          rw [fillV_eq (T := T) (S := S) (ps := parts) (hT.mono fun l hl => List.mem_append_left _ hl)]
          exact hvs
        split at h
        · rename_i hl
          injection h with h; subst h
          refine local_nil rfl (fun l hl => List.mem_append_right _ hl) fun T hT => ?_
          simp only [dOp, evOp, key T hT, hts, if_pos hl]
        · rename_i hl
          injection h with h; subst h
          exact local_new (v := fun n => .one (.row n)) rfl (fun l hl => List.mem_append_right _ hl) fun T hT => by
            simp only [dOp, evOp, key T hT, hts, if_neg hl]
      · cases h
    · cases h
  | load agg sz x =>
    have key : ∀ T, Same (opRd S (.load agg sz x)) T S → rdAt T sz (x.ev T) = rdAt S sz (x.ev S) := fun T hT => by
      rw [opRd_ev hT (x := x) (by simp [opArgs])]
      exact rdAt_eq (argRd_ob (opRd_arg hT (x := x) (by simp [opArgs])))
    simp only [dOp, evOp] at h
    split at h
    · rename_i vs hvs
      split at h
      · rename_i ha
        injection h with h; subst h
        exact local_val rfl fun T hT => by simp only [dOp, evOp, key T hT, hvs, ha, if_true]
      · rename_i ha
        split at h
        · injection h with h; subst h
          exact local_val rfl fun T hT => by simp only [dOp, evOp, key T hT, hvs, ha, if_false]; simp
        · cases h
    · cases h
  | nilck x =>
    simp only [dOp, evOp] at h
    split at h <;> first | (cases h; done) | skip
    all_goals
      rename_i hv
      injection h with h; subst h
      exact local_val rfl fun T hT => by simp only [dOp, evOp, opRd_ev hT (x := x) (by simp [opArgs]), hv]
  | bin op x y =>
    simp only [dOp, evOp] at h
    split at h
    · rename_i k a k' b h1 h2
      split at h
      · rename_i v hv
        injection h with h; subst h
        exact local_val rfl fun T hT => by simp only [dOp, evOp, opRd_ev hT (x := x) (by simp [opArgs]), opRd_ev hT (x := y) (by simp [opArgs]), h1, h2, hv]
      · cases h
    · cases h
  | eqS neg n x y =>
    simp only [dOp, evOp] at h
    split at h
    · rename_i xs ys h1 h2
      split at h
      · rename_i p q hp hq
        split at h
        · rename_i hk
          injection h with h; subst h
          refine local_val rfl fun T hT => ?_
          simp only [dOp, evOp, opRd_ev hT (x := x) (by simp [opArgs]), opRd_ev hT (x := y) (by simp [opArgs]), h1, h2, hp, hq, if_pos hk]
        · cases h
      · cases h
    · rename_i p q h1 h2
      split at h
      · rename_i hk
        injection h with h; subst h
        refine local_val rfl fun T hT => ?_
        simp only [dOp, evOp, opRd_ev hT (x := x) (by simp [opArgs]), opRd_ev hT (x := y) (by simp [opArgs]), h1, h2, if_pos hk]
      · cases h
    · cases h
  | not x =>
    simp only [dOp, evOp] at h
    split at h
    · rename_i hv
      injection h with h; subst h
      exact local_val rfl fun T hT => by simp only [dOp, evOp, opRd_ev hT (x := x) (by simp [opArgs]), hv]
    · cases h
  | conv k x =>
    simp only [dOp, evOp] at h
    split at h
    · rename_i hv
      injection h with h; subst h
      exact local_val rfl fun T hT => by simp only [dOp, evOp, opRd_ev hT (x := x) (by simp [opArgs]), hv]
    · cases h
  | fieldA off x =>
    simp only [dOp, evOp] at h
    split at h <;> first | (cases h; done) | skip
    all_goals
      rename_i hv
      injection h with h; subst h
      exact local_val rfl fun T hT => by simp only [dOp, evOp, opRd_ev hT (x := x) (by simp [opArgs]), hv]
  | idxA esz x i =>
    simp only [dOp, evOp] at h
    split at h
    · rename_i k j h2
      split at h
      · rename_i n cs h1
        split at h
        · rename_i hc
          injection h with h; subst h
          exact local_val rfl fun T hT => by simp only [dOp, evOp, opRd_ev hT (x := x) (by simp [opArgs]), opRd_ev hT (x := i) (by simp [opArgs]), h1, h2, if_pos hc]
        · cases h
      · rename_i p h1
        split at h
        · rename_i y hy
          split at h
          · rename_i hc
            injection h with h; subst h
            refine local_val rfl fun T hT => ?_
            have hl : T.live p = some y := by
              rw [live_eq (argRd_ob (opRd_arg hT (x := x) (by simp [opArgs])) p (by rw [h1]; simp [AV.refs, V1.refs]))]
              exact hy
            simp only [dOp, evOp, opRd_ev hT (x := x) (by simp [opArgs]), opRd_ev hT (x := i) (by simp [opArgs]), h1, h2, hl, if_pos hc]
          · cases h
        · cases h
      · cases h
    · cases h
  | idxArr len esz x i =>
    simp only [dOp, evOp] at h
    split at h
    · rename_i k j h2
      split at h
      · rename_i hc
        split at h <;> first | (cases h; done) | skip
        all_goals
          rename_i h1
          injection h with h; subst h
          exact local_val rfl fun T hT => by simp only [dOp, evOp, opRd_ev hT (x := x) (by simp [opArgs]), opRd_ev hT (x := i) (by simp [opArgs]), h1, h2, if_pos hc]
      · cases h
    · cases h
  | extract x i =>
    simp only [dOp, evOp] at h
    split at h
    · rename_i ss hss
      split at h <;> first | (cases h; done) | skip
      all_goals
        rename_i hv
        injection h with h; subst h
        exact local_val rfl fun T hT => by simp only [dOp, evOp, opRd_ev hT (x := x) (by simp [opArgs]), hss, hv]
    · cases h
  | len x =>
    simp only [dOp, evOp] at h
    split at h
    · rename_i n cs hcs
      injection h with h; subst h
      refine local_val rfl fun T hT => ?_
      have key : sliceOf T (x.ev T) = some (n, cs) := by
        rw [opRd_ev hT (x := x) (by simp [opArgs]), sliceOf_eq (argRd_ob (opRd_arg hT (x := x) (by simp [opArgs])))]
        exact hcs
      simp only [dOp, evOp, key]
    · cases h
  | minmax isMax x y =>
    simp only [dOp, evOp] at h
    split at h
    · rename_i k a k' b h1 h2
      split at h
      · rename_i hk
        injection h with h; subst h
        exact local_val rfl fun T hT => by simp only [dOp, evOp, opRd_ev hT (x := x) (by simp [opArgs]), opRd_ev hT (x := y) (by simp [opArgs]), h1, h2, hk, if_true]
      · cases h
    · cases h
  | mkfn f caps => exact h.elim
  | make nm typ esz bytes zero l c =>
    simp only [dOp, evOp] at h
    split at h
    · rename_i k p k' q h1 h2
      split at h
      · rename_i hc
        injection h with h; subst h
        exact local_new (v := fun n => .one (.row n)) rfl (fun l hl => List.mem_append_right _ hl) fun T hT => by
          simp only [dOp, evOp, opRd_ev hT (x := l) (by simp [opArgs]), opRd_ev hT (x := c) (by simp [opArgs]), h1, h2, if_pos hc]
      · cases h
    · cases h
  | store sz ax x =>
    have main : ∀ (p : Nm) (off : Nat) (vs ts : List V1) (y : Ob), ax.ev S = .one (.ptr p off) → (∀ T, Same (opRd S (.store sz ax x)) T S → dOp P T (.store sz ax x) ⟨.undef, upd T.ob p (some y), T.cnt⟩) →
        Local P (.store sz ax x) S ⟨.undef, upd S.ob p (some y), S.cnt⟩ := by
      intro p off vs ts y hp hd
      have hw : opWr S (.store sz ax x) = [(1, p.1)] := by simp [opWr, hp, AV.refs, V1.refs]
      refine ⟨fun z hz => ?_, fun _ _ => rfl, fun T hT => ⟨_, hd T hT, rfl, fun z hz => ?_, fun z hz => ?_, fun n hn => ?_, fun _ _ => rfl⟩⟩
      · rw [hw] at hz
        refine upd_ne _ _ ?_
        rintro rfl
        simp at hz
      · rw [hw] at hz
        have hz : z.1 = p.1 := by simpa using hz
        show upd T.ob p _ z = upd S.ob p _ z
        unfold upd
        split
        · rfl
        · exact argRd_ob (opRd_arg hT (x := ax) (by simp [opArgs])) z (by rw [hp]; simp [AV.refs, V1.refs, hz])
      · rw [hw] at hz
        refine upd_ne _ _ ?_
        rintro rfl
        simp at hz
      · rw [hw] at hn
        simp at hn
    simp only [dOp, evOp] at h
    split at h
    · rename_i p off vs hp hvs
      split at h
      · rename_i b hb
        have hlive : ∀ T, Same (opRd S (.store sz ax x)) T S → T.live p = some b := fun T hT => by
          rw [live_eq (argRd_ob (opRd_arg hT (x := ax) (by simp [opArgs])) p (by rw [hp]; simp [AV.refs, V1.refs]))]
          exact hb
        split at h
        · rename_i hc
          split at h
          · rename_i hrow
            split at h
            · rename_i ts hts
              injection h with h; subst h
              exact main p off vs ts _ hp fun T hT => by
                simp only [dOp, evOp, opRd_ev hT (x := ax) (by simp [opArgs]), opRd_ev hT (x := x) (by simp [opArgs]), hp, hvs, hlive T hT, if_pos hc, if_pos hrow, hts]
            · cases h
          · rename_i hrow
            injection h with h; subst h
            exact main p off vs vs _ hp fun T hT => by
              simp only [dOp, evOp, opRd_ev hT (x := ax) (by simp [opArgs]), opRd_ev hT (x := x) (by simp [opArgs]), hp, hvs, hlive T hT, if_pos hc, if_neg hrow]
        · cases h
      · cases h
    · cases h
  | append nm typ esz bytes x y =>
    have hsl : ∀ T, Same (opRd S (.append nm typ esz bytes x y)) T S → sliceOf T (y.ev T) = sliceOf S (y.ev S) := fun T hT => by
      rw [opRd_ev hT (x := y) (by simp [opArgs]), sliceOf_eq (argRd_ob (opRd_arg hT (x := y) (by simp [opArgs])))]
    simp only [dOp, evOp] at h
    split at h
    · rename_i k news hys
      split at h
      · rename_i ts hts
        split at h
        · rename_i hx
          split at h
          · rename_i hc
            split at h
            · rename_i hk
              injection h with h; subst h
              have hw : ∀ z, (1, z) ∈ opWr S (.append nm typ esz bytes x y) ↔ z = nm := fun z => by simp [opWr, hx, AV.refs, V1.refs]
              refine ⟨fun _ _ => rfl, fun _ _ => rfl, fun T hT => ⟨T.val (.one .nil), ?_, rfl, fun z hz => ?_, fun _ _ => rfl, fun n hn => ?_, fun _ _ => rfl⟩⟩
              · simp only [dOp, evOp, hsl T hT, hys, hts, opRd_ev hT (x := x) (by simp [opArgs]), hx, if_pos hc, if_pos hk]
              · exact hT.ob z (List.mem_append_right _ (by rw [(hw _).1 hz]; simp [opNew, opNewR]))
              · have : n = nm := by simpa [opWr, hx, AV.refs, V1.refs] using hn
                subst this
                exact hT.cnt n (List.mem_append_right _ (by simp [opNew, opNewR]))
            · rename_i hk
              injection h with h; subst h
              exact local_new (v := fun n => .one (.row n)) (by simp [opWr, hx, AV.refs, V1.refs]) (fun l hl => List.mem_append_right _ hl) fun T hT => by
                simp only [dOp, evOp, hsl T hT, hys, hts, opRd_ev hT (x := x) (by simp [opArgs]), hx, if_pos hc, if_neg hk]
          · cases h
        · rename_i p hx
          split at h
          · rename_i b hb
            split at h
            · rename_i hc
              injection h with h; subst h
              have hw : opWr S (.append nm typ esz bytes x y) = [(1, p.1), (1, nm), (2, nm)] := by simp [opWr, hx, AV.refs, V1.refs]
              refine ⟨fun z hz => ?_, fun n hn => ?_, fun T hT => ?_⟩
              · rw [hw] at hz
                show upd (upd S.ob p _) (nm, S.cnt nm) _ z = _
                rw [upd_ne _ _ (by rintro rfl; simp at hz), upd_ne _ _ (by rintro rfl; simp at hz)]
              · rw [hw] at hn
                exact upd_ne _ _ (by rintro rfl; simp at hn)
              · have hcnt : T.cnt nm = S.cnt nm := hT.cnt nm (List.mem_append_right _ (by simp [opNew, opNewR]))
                have hobp : ∀ z : Nm, z.1 = p.1 → T.ob z = S.ob z := fun z hz => argRd_ob (opRd_arg hT (x := x) (by simp [opArgs])) z (by rw [hx]; simp [AV.refs, V1.refs, hz])
                have hobn : ∀ z : Nm, z.1 = nm → T.ob z = S.ob z := fun z hz => hT.ob z (List.mem_append_right _ (by simp [opNew, opNewR, hz]))
                have hl : T.live p = some b := by rw [live_eq (hobp p rfl)]; exact hb
                refine ⟨⟨.one (.row (nm, T.cnt nm)), upd (upd T.ob p (some { b with live := false })) (nm, T.cnt nm) (some ⟨true, true, false, esz, b.n + k, typ, b.cells ++ ts⟩), upd T.cnt nm (T.cnt nm + 1)⟩, ?_, by simp only [hcnt], fun z hz => ?_, fun z hz => ?_, fun n hn => ?_, fun n hn => ?_⟩
                · simp only [dOp, evOp, hsl T hT, hys, hts, opRd_ev hT (x := x) (by simp [opArgs]), hx, hl, if_pos hc]
                · rw [hw] at hz
                  simp only [hcnt]
                  unfold upd
                  split
                  · rfl
                  · split
                    · rfl
                    · simp at hz
                      rcases hz with hz | hz
                      · exact hobp z hz
                      · exact hobn z hz
                · rw [hw] at hz
                  show upd (upd T.ob p _) (nm, T.cnt nm) _ z = _
                  rw [upd_ne _ _ (by rintro rfl; simp at hz), upd_ne _ _ (by rintro rfl; simp at hz)]
                · rw [hw] at hn
                  have : n = nm := by simpa using hn
                  subst this
                  show upd T.cnt n _ n = upd S.cnt n _ n
                  rw [upd_same, upd_same, hcnt]
                · rw [hw] at hn
                  exact upd_ne _ _ (by rintro rfl; simp at hn)
            · cases h
          · cases h
        · cases h
      · cases h
    · cases h
  | isnil neg x => exact h.elim
  | call f nm args =>
    obtain ⟨g, targs, h1, h2, h⟩ := h
    have a1 : ∀ T, Same (opRd S (.call f nm args)) T S → f.ev T = .one (.fn g []) := fun T hT => by
      rw [opRd_ev hT (x := f) (by simp [opArgs])]
      exact h1
    have a2 : ∀ T, Same (opRd S (.call f nm args)) T S → Same (argsRd S args) T S := fun T hT => hT.mono fun l hl => List.mem_append_left _ (List.mem_append_right _ hl)
    have a3 : ∀ T, Same (opRd S (.call f nm args)) T S → argTrees ⟨fun _ => .undef, T.ob, T.cnt⟩ (args.map (Arg.ev T)) = some targs := fun T hT => by
      rw [evs_eq (a2 T hT), (argTrees_eq (a2 T hT)).1]
      exact h2
    rcases h with ⟨r, h3, h4, rfl⟩ | ⟨typ, esz, n, cs, h3, rfl⟩
    · refine local_nil rfl (fun l hl => List.mem_append_right _ hl) fun T hT => ⟨g, targs, a1 T hT, a3 T hT, .inl ⟨r, h3, ?_, rfl⟩⟩
      rw [evs_eq (a2 T hT), (argTrees_eq (a2 T hT)).2]
      exact h4
    · unfold rowEff
      by_cases hn : n = 0
      · rw [if_pos hn]
        refine local_nil rfl (fun l hl => List.mem_append_right _ hl) fun T hT => ⟨g, targs, a1 T hT, a3 T hT, .inr ⟨typ, esz, n, cs, h3, ?_⟩⟩
        rw [rowEff, if_pos hn]
      · rw [if_neg hn]
        refine local_new (v := fun n => .one (.row n)) rfl (fun l hl => List.mem_append_right _ hl) fun T hT => ⟨g, targs, a1 T hT, a3 T hT, .inr ⟨typ, esz, n, cs, h3, ?_⟩⟩
        rw [rowEff, if_neg hn]
end
end Go.Proofs.Ythapbbpdcjmmfaa.Abs
