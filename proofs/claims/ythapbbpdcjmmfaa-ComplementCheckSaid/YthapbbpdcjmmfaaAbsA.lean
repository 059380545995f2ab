/-
  Contracts of functions, over trees and over abstract states; the weakest precondition over the small code, and that it is sound. No condition beyond those that each statement names.
-/
import Derived.Test.YthapbbpdcjmmfaaAbs9
import Derived.LoopN
namespace Go.Proofs.Ythapbbpdcjmmfaa.Abs
open Go.RowKit
set_option linter.unusedVariables false
set_option linter.unusedSimpArgs false

/-- A value of trees alone: one cell, or an aggregate. -/
abbrev TV := Bool × List C

inductive TR where
  | sv (x : TV)
  | tup (l : List TV)

def TLR (w : World) (Z : Nat → Prop) (cs : List C) (us : List Value) : Prop := cs.length = us.length ∧ ∀ (j : Nat) c u, cs[j]? = some c → us[j]? = some u → CR w Z c u

def TVR (w : World) (Z : Nat → Prop) : TV → Value → Prop
  | (true, cs), v => ∃ us : Array Value, v = .agg us ∧ TLR w Z cs us.toList
  | (false, cs), v => ∃ c, cs = [c] ∧ CR w Z c v

def TRR (w : World) (Z : Nat → Prop) : TR → Value → Prop
  | .sv x, v => TVR w Z x v
  | .tup l, v => ∃ us : Array Value, v = .tuple us ∧ l.length = us.size ∧ ∀ (j : Nat) s u, l[j]? = some s → us[j]? = some u → TVR w Z s u

def callable (P : Program) (f : FuncId) : Bool := match P.funcs[f]? with
  | some fn => (fn.name != "runtime.NumGoroutine") && fn.body.isSome
  | none => false

/-- Called with what reads as these trees, the function returns what reads as that one; nothing that was there has changed. -/
def CallOK (P : Program) (f : FuncId) (args : List TV) (r : TR) : Prop := callable P f = true ∧
  ∀ (w : World) (Z : Nat → Prop) (cargs : Array Value), (∀ b, Z b → b < w.heap.size) → args.length = cargs.size →
    (∀ (j : Nat) s u, args[j]? = some s → cargs[j]? = some u → TVR w Z s u) →
    Calls P f cargs w fun e w' => ∃ v, e = .returned v ∧ TRR w' Z r v ∧ Below w.heap.size w w'

/-- The same over abstract states: what the call makes stays the caller's. -/
def CallS (P : Program) (f : FuncId) (args : List AV) (ob : Nm → Option Ob) (cnt : Nat → Nat) (R : AV → (Nm → Option Ob) → (Nat → Nat) → Prop) : Prop := callable P f = true ∧
  ∀ (w0 : World) (Zc : Nat → Prop) (m : Map) (w : World) (cargs : Array Value), HR w0 Zc m ob cnt w → args.length = cargs.size →
    (∀ (j : Nat) x u, args[j]? = some x → cargs[j]? = some u → AVR w (vol m ob Zc) m ob x u) →
    Calls P f cargs w fun e w' => ∃ v r ob' cnt' m', e = .returned v ∧ R r ob' cnt' ∧ HR w0 Zc m' ob' cnt' w' ∧ Ext w (vol m ob Zc) m ob w' (vol m' ob' Zc) m' ob' ∧ AVR w' (vol m' ob' Zc) m' ob' r v

/-! ### The small code -/
structure MOper where
  dst : Option Nat
  op : MOp
  guard : Option (Nat × Bool)

inductive MCode where
  | skip
  | region (ops : List MOper)
  | draw (deps : List (List Nat)) (ops : List MOper)
  | seq (a b : MCode)
  | cond (c : Arg) (a b : MCode)
  | block (id : Nat) (b : MCode)
  | loop (b : MCode)
  | exit (id : Nat)
  | ret

inductive X where
  | normal
  | exit (id : Nat)
  | ret

def St.set (S : St) (d : Option Nat) (v : AV) (ob : Nm → Option Ob) (cnt : Nat → Nat) : St :=
  ⟨match d with | some t => upd S.fr t v | none => S.fr, ob, cnt⟩

def thereIs (x : Option Eff) (K : Eff → Prop) : Prop := ∃ E, x = some E ∧ K E

def awpOp (P : Program) (o : MOp) (S : St) (K : AV → (Nm → Option Ob) → (Nat → Nat) → Prop) : Prop := match o with
  | .call f nm args => ∃ g caps, f.ev S = .one (.fn g caps) ∧ CallS P g (args.map (Arg.ev S) ++ caps.map (fun n => .one (.ptr n 0))) S.ob S.cnt K
  | .isnil neg x => match x.ev S with
    | .one .nil => ∀ b : Bool, K (.one (.t (.bool b))) S.ob S.cnt
    | .one (.row _) => K (.one (.t (.bool neg))) S.ob S.cnt
    | .one (.t (.sl n cs)) => ∀ b : Bool, (b = true → cs = []) → K (.one (.t (.bool (if neg then !b else b)))) S.ob S.cnt
    | _ => False
  | o => thereIs (evOp S o) fun E => K E.v E.ob E.cnt

/-- What a guard reads: an answer, or none where the operation was left out. -/
def gval : AV → Option (Option Bool)
  | .undef => some none
  | .one (.t (.bool b)) => some (some b)
  | _ => none

def awpOps (P : Program) : List MOper → St → (St → Prop) → Prop
  | [], S, Q => Q S
  | o :: r, S, Q => match o.guard with
    | none => awpOp P o.op S fun v ob cnt => awpOps P r (S.set o.dst v ob cnt) Q
    | some (t, b) => ∃ b', gval (S.fr t) = some b' ∧ (b' = some b → awpOp P o.op S fun v ob cnt => awpOps P r (S.set o.dst v ob cnt) Q) ∧
        (b' ≠ some b → awpOps P r (S.set o.dst .undef S.ob S.cnt) Q)

/-- The rule for a loop, as one word. -/
def loopP (b : (X → St → Prop) → St → Prop) (Q : X → St → Prop) (S : St) : Prop :=
  ∃ (I : St → Prop) (μ : St → Nat), I S ∧ ∀ S, I S → b (fun x S' => match x with | .normal => I S' ∧ μ S' < μ S | x => Q x S') S

theorem loop_intro {b : (X → St → Prop) → St → Prop} {Q : X → St → Prop} {S : St} (I : St → Prop) (μ : St → Nat) (h0 : I S)
    (h : ∀ S, I S → b (fun x S' => match x with | .normal => I S' ∧ μ S' < μ S | x => Q x S') S) : loopP b Q S := ⟨I, μ, h0, h⟩

def awp (P : Program) (D : List (List Nat) → List MOper → St → (St → Prop) → Prop) : MCode → (X → St → Prop) → St → Prop
  | .skip, Q, S => Q .normal S
  | .region ops, Q, S => awpOps P ops S (Q .normal)
  | .draw deps ops, Q, S => D deps ops S (Q .normal)
  | .seq a b, Q, S => awp P D a (fun x S' => match x with | .normal => awp P D b Q S' | x => Q x S') S
  | .cond c a b, Q, S => ∃ t, c.ev S = .one (.t (.bool t)) ∧ (t = true → awp P D a Q S) ∧ (t = false → awp P D b Q S)
  | .block id b, Q, S => awp P D b (fun x S' => match x with | .exit i => if i = id then Q .normal S' else Q (.exit i) S' | x => Q x S') S
  | .loop b, Q, S => loopP (awp P D b) Q S
  | .exit id, Q, S => Q (.exit id) S
  | .ret, Q, S => Q .ret S

/-! ### Compiling -/
def dstOk (N : Nat) : Option Nat → Bool
  | some t => t < N
  | none => true

def cOper (P : Program) (N nm : Nat) (ops : List Oper) (o : Oper) : Option MOper :=
  if dstOk N o.dst then (cOp P nm o).bind fun mo => match o.guard with
    | none => some ⟨o.dst, mo, none⟩
    | some (j, b) => match ops[j]? with
      | some oj => oj.dst.map fun t => ⟨o.dst, mo, some (t, b)⟩
      | none => none
  else none

def cOpers (P : Program) (N : Nat) (all : List Oper) : Nat → List Oper → Option (List MOper)
  | _, [] => some []
  | nm, o :: r => (cOper P N nm all o).bind fun x => (cOpers P N all (nm + 1) r).map (x :: ·)

def depsOf (o : Oper) : List Nat := (o.after.toList.filter (Region.binds .any)).map (·.on)

def cCode (P : Program) (N : Nat) : Code → Option MCode
  | .skip => some .skip
  | .region id ops false => (cOpers P N ops.toList (id * 64) ops.toList).map .region
  | .region id ops true => (cOpers P N ops.toList (id * 64) ops.toList).map (.draw (ops.toList.map depsOf))
  | .seq a b => (cCode P N a).bind fun a => (cCode P N b).map (.seq a)
  | .cond c a b => (cArg c).bind fun c => (cCode P N a).bind fun a => (cCode P N b).map (.cond c a)
  | .block id b => (cCode P N b).map (.block id)
  | .loop b => (cCode P N b).map .loop
  | .exit id => some (.exit id)
  | .ret => some .ret
  | _ => none

/-! ### Soundness -/
section
variable {P : Program} {a : Act} {w w0 : World} {I : Ini} {Zc : Nat → Prop} {N : Nat} {m : Map} {S : St}

theorem put_getD (a : Act) (t : Nat) (v : Value) (ht : t < a.tmps.size) (i : Nat) : (a.put (some t) v).tmps.getD i undef = if i = t then v else a.tmps.getD i undef := by
  simp only [Act.put, Array.getD_eq_getD_getElem?, Array.getElem?_setIfInBounds]
  by_cases h : i = t
  · subst h
    simp [ht]
  · rw [if_neg (by omega), if_neg h]

/-- The state behind an operation. -/
theorem sim_put {d : Option Nat} {v : AV} {u : Value} {w' : World} {m' : Map} {ob : Nm → Option Ob} {cnt : Nat → Nat} (s : Sim w0 I Zc N m S a w) (hd : dstOk N d = true) (h : HR w0 Zc m' ob cnt w')
    (e : Ext w (vol m S.ob Zc) m S.ob w' (vol m' ob Zc) m' ob) (hv : AVR w' (vol m' ob Zc) m' ob v u) : Sim w0 I Zc N m' (S.set d v ob cnt) (a.put d u) w' := by
  cases d with
  | none => exact ⟨h, s.defers, s.size, fun t => AVR.ext e (s.fr t), s.past.trans e⟩
  | some t =>
    have ht : t < a.tmps.size := by rw [s.size]; simpa [dstOk] using hd
    refine ⟨h, s.defers, by simp [Act.put, s.size], fun i => ?_, s.past.trans e⟩
    rw [put_getD a t u ht i]
    simp only [St.set, upd]
    by_cases hi : i = t
    · rw [if_pos hi, if_pos hi]; exact hv
    · rw [if_neg hi, if_neg hi]; exact AVR.ext e (s.fr i)

theorem cArgs_spec {w : World} (s : Sim w0 I Zc N m S a w) : ∀ {xs : List Operand} {l : List Arg}, cArgs xs = some l → (l.map (Arg.ev S)).length = (xs.map a.eval).length ∧
    ∀ (j : Nat) x u, (l.map (Arg.ev S))[j]? = some x → (xs.map a.eval)[j]? = some u → AVR w (vol m S.ob Zc) m S.ob x u
  | [], l, h => by
    injection h with h; subst h
    exact ⟨rfl, fun j x u hx => by simp at hx⟩
  | x :: r, l, h => by
    simp only [cArgs, Option.bind_eq_some_iff, Option.map_eq_some_iff] at h
    obtain ⟨y, hy, ys, hys, rfl⟩ := h
    obtain ⟨i1, i2⟩ := cArgs_spec s hys
    refine ⟨by simpa using i1, fun j p u hp hu => ?_⟩
    cases j with
    | zero =>
      simp at hp hu
      subst hp hu
      exact arg_spec s hy
    | succ j => exact i2 j p u (by simpa using hp) (by simpa using hu)

set_option maxHeartbeats 1000000 in
theorem cOp_call {nm n : Nat} {o : Oper} {f : Arg} {args : List Arg} (hc : cOp P nm o = some (.call f n args)) :
    ∃ c fo, o.op = .call c ∧ c.callee = .value fo ∧ cArg fo = some f ∧ cArgs c.args.toList = some args := by
  unfold cOp at hc
  split at hc
  case h_21 c ho =>
    unfold cCall at hc
    split at hc
    · unfold cBuiltin at hc
      repeat' (split at hc)
      all_goals simp [Option.bind_eq_some_iff, Option.map_eq_some_iff] at hc
    · rename_i fo hfo
      simp only [Option.bind_eq_some_iff, Option.map_eq_some_iff] at hc
      obtain ⟨f', hf', l, hl, he⟩ := hc
      injection he with e1 e2 e3
      subst e1 e2 e3
      exact ⟨c, fo, ho, hfo, hf', hl⟩
    · cases hc
  all_goals
    repeat' (split at hc)
    all_goals (simp [Option.bind_eq_some_iff, Option.map_eq_some_iff] at hc)

set_option maxHeartbeats 1000000 in
theorem cOp_isnil {nm : Nat} {o : Oper} {neg : Bool} {y : Arg} (hc : cOp P nm o = some (.isnil neg y)) :
    ∃ t t' x e, o.op = .binOp (if neg then .neq else .eql) t x (.const (.slice none 0 0)) t' ∧ P.underlying t = some (.slice e) ∧ cArg x = some y := by
  unfold cOp at hc
  split at hc
  case h_11 t x t' ho =>
    split at hc
    · rename_i e he
      simp only [Option.map_eq_some_iff] at hc
      obtain ⟨y', hy, h⟩ := hc
      injection h with h1 h2
      subst h1 h2
      exact ⟨t, t', x, e, ho, he, hy⟩
    · cases hc
  case h_12 t x t' ho =>
    split at hc
    · rename_i e he
      simp only [Option.map_eq_some_iff] at hc
      obtain ⟨y', hy, h⟩ := hc
      injection h with h1 h2
      subst h1 h2
      exact ⟨t, t', x, e, ho, he, hy⟩
    · cases hc
  case h_21 c ho =>
    unfold cCall at hc
    split at hc
    · unfold cBuiltin at hc
      repeat' (split at hc)
      all_goals simp [Option.bind_eq_some_iff, Option.map_eq_some_iff] at hc
    · simp [Option.bind_eq_some_iff, Option.map_eq_some_iff] at hc
    · cases hc
  all_goals
    repeat' (split at hc)
    all_goals (simp [Option.bind_eq_some_iff, Option.map_eq_some_iff] at hc)

theorem isnil_run {neg : Bool} {t t' : TypeId} {x : Operand} {e : TypeId} {o : Oper} (ho : o.op = .binOp (if neg then .neq else .eql) t x (.const (.slice none 0 0)) t') (hu : P.underlying t = some (.slice e)) {A : Option Addr} {n c : Nat} (hx : a.eval x = .slice A n c) :
    (execOp a.eval o).run P w = .ok (.value (.bool (if neg then !A.isNone else A.isNone))) w := by
  have hy : a.eval (.const (.slice none 0 0)) = .slice none 0 0 := rfl
  have heq : (Op.equal t (.slice A n c) (.slice none 0 0)).run P w = .ok A.isNone w := by
    unfold Op.equal
    obtain ⟨d, hd⟩ : ∃ d, Op.maxDepth = d + 1 := ⟨9999, rfl⟩
    rw [hd]
    cases A <;> simp [Op.equalIn, run_underlying hu]
  cases neg
  · simp only [Bool.false_eq_true, if_false] at ho ⊢
    simp only [execOp, ho, hx, hy, Sem.run_bind, eqGuard, binOp, heq, Result.andThen_ok, Sem.run_pure]
    simp [heq]
  · simp only [if_true] at ho ⊢
    simp only [execOp, ho, hx, hy, Sem.run_bind, eqGuard, binOp, heq, Result.andThen_ok, Sem.run_pure]
    simp [heq]

theorem op_wp {nm : Nat} {o : Oper} {mo : MOp} {K : AV → (Nm → Option Ob) → (Nat → Nat) → Prop} (s : Sim w0 I Zc N m S a w) (hc : cOp P nm o = some mo)
    (h : awpOp P mo S K) (next : Act → World → Prop) (Q : Exit → Act → World → Prop)
    (hn : ∀ v u w' m' ob cnt, K v ob cnt → HR w0 Zc m' ob cnt w' → Ext w (vol m S.ob Zc) m S.ob w' (vol m' ob Zc) m' ob → AVR w' (vol m' ob Zc) m' ob v u → next (a.put o.dst u) w') : o.wp P a w next Q := by
  have plain : (∃ E, evOp S mo = some E ∧ K E.v E.ob E.cnt) → o.wp P a w next Q := by
    rintro ⟨E, he, hk⟩
    obtain ⟨nx, v, w', m', hrun, hnx, g1, g2, g3⟩ := op_goes s hc he
    unfold Oper.wp
    rw [hrun]
    rcases hnx with rfl | ⟨rfl, rfl⟩
    · exact hn _ _ _ _ _ _ hk g1 g2 g3
    · exact hn _ _ _ _ _ _ hk g1 g2 g3
  by_cases hcall : ∃ f n args, mo = .call f n args
  · obtain ⟨f, n, args, rfl⟩ := hcall
    obtain ⟨g, caps, hf, ⟨hcb, hcs⟩⟩ := h
    obtain ⟨c, fo, ho, hfo, hcf, hca⟩ := cOp_call hc
    have e1 := arg_spec s hcf
    rw [hf] at e1
    obtain ⟨hcn, e1⟩ := e1
    have hrun : (execOp a.eval o).run P w = .ok (.enter g (c.args.map a.eval ++ (caps.map (ptrV m)).toArray)) w := by
      unfold callable at hcb
      split at hcb
      · rename_i fn hfn
        simp only [Bool.and_eq_true, bne_iff_ne] at hcb
        obtain ⟨h1, h2⟩ := hcb
        have h2 : fn.body.isNone = false := by
          cases hb : fn.body with
          | none => rw [hb] at h2; cases h2
          | some b => rfl
        simp [execOp, ho, resolve, hfo, e1, Deferred.ofValue, invoke, callFunc, hfn, h1, h2]
        intro hb
        rw [hb] at h2
        cases h2
      · cases hcb
    unfold Oper.wp
    rw [hrun]
    obtain ⟨l1, l2⟩ := cArgs_spec s hca
    refine (hcs w0 Zc m w _ s.heap ?_ ?_).mono ?_
    · simp only [List.length_append, List.length_map, Array.size_append, Array.size_map, List.size_toArray]
      simp only [List.length_map, Array.length_toList] at l1
      omega
    · intro j x u hx hu
      rw [List.getElem?_append] at hx
      simp only [Array.getElem?_append, Array.size_map] at hu
      simp only [List.length_map, Array.length_toList] at l1 hx
      by_cases hj : j < args.length
      · rw [if_pos hj] at hx
        rw [if_pos (by omega)] at hu
        exact l2 j x u hx (by simpa using hu)
      · rw [if_neg hj] at hx
        rw [if_neg (by omega)] at hu
        simp only [List.getElem?_map, Option.map_eq_some_iff, List.getElem?_toArray] at hx hu
        obtain ⟨q, hq, rfl⟩ := hx
        obtain ⟨q', hq', rfl⟩ := hu
        rw [l1, hq'] at hq
        injection hq with hq
        subst hq
        exact ⟨hcn _ (List.mem_of_getElem? hq'), rfl⟩
    · rintro e w' ⟨v, r, ob', cnt', m', rfl, hk, h1, h2, h3⟩
      exact hn _ _ _ _ _ _ hk h1 h2 h3
  · by_cases hnil : ∃ neg y, mo = .isnil neg y
    · obtain ⟨neg, y, rfl⟩ := hnil
      obtain ⟨t, t', x, e, ho, hu, hy⟩ := cOp_isnil hc
      have hv := arg_spec s hy
      have fin : ∀ (A : Option Addr) (n c : Nat), a.eval x = .slice A n c → K (.one (.t (.bool (if neg then !A.isNone else A.isNone)))) S.ob S.cnt → o.wp P a w next Q := by
        intro A n c hx hk
        unfold Oper.wp
        rw [isnil_run ho hu hx]
        exact hn _ _ w m _ _ hk s.heap (Ext.refl ..) (CR.bool _)
      simp only [awpOp] at h
      split at h
      · rename_i he
        rw [he] at hv
        obtain ⟨A, hv⟩ : ∃ A, a.eval x = .slice A 0 0 := hv
        exact fin A 0 0 hv (h _)
      · rename_i p he
        rw [he] at hv
        obtain ⟨b, _, _, hv⟩ := hv
        exact fin _ _ _ hv (by cases neg <;> exact h)
      · rename_i n cs he
        rw [he] at hv
        generalize hx : a.eval x = v at hv
        cases (show CR w _ (.sl n cs) v from hv)
        rename_i cap A us hcap ha hcc
        refine fin A n cap hx (h A.isNone fun hb => ?_)
        cases A with
        | some ad => cases hb
        | none =>
          cases cs with
          | nil => rfl
          | cons c r =>
            obtain ⟨ad, h, _⟩ := ha (by simp)
            cases h
      · exact h.elim
    · cases mo <;> first | exact absurd ⟨_, _, _, rfl⟩ hcall | exact absurd ⟨_, _, rfl⟩ hnil | exact plain h
end
end Go.Proofs.Ythapbbpdcjmmfaa.Abs
