/-
  The weakest precondition over the small code is sound. No condition beyond those that each statement names.
-/
import Derived.Test.YthapbbpdcjmmfaaAbsA
namespace Go.Proofs.Ythapbbpdcjmmfaa.Abs
open Go.RowKit
set_option linter.unusedVariables false
set_option linter.unusedSimpArgs false

section
variable {P : Program} {a : Act} {w w0 : World} {I : Ini} {Zc : Nat → Prop} {N : Nat} {m : Map} {S : St}

theorem dstOk_of {N nm : Nat} {all : List Oper} {o : Oper} {x : MOper} (h : cOper P N nm all o = some x) : dstOk N o.dst = true ∧ x.dst = o.dst ∧ cOp P nm o = some x.op ∧
    (o.guard = none ∧ x.guard = none ∨ ∃ j b t oj, o.guard = some (j, b) ∧ all[j]? = some oj ∧ oj.dst = some t ∧ x.guard = some (t, b)) := by
  unfold cOper at h
  split at h
  · rename_i hd
    simp only [Option.bind_eq_some_iff] at h
    obtain ⟨mo, hmo, h⟩ := h
    split at h
    · rename_i hg
      injection h with h; subst h
      exact ⟨hd, rfl, hmo, .inl ⟨hg, rfl⟩⟩
    · rename_i j b hg
      split at h
      · rename_i oj hoj
        simp only [Option.map_eq_some_iff] at h
        obtain ⟨t, ht, rfl⟩ := h
        exact ⟨hd, rfl, hmo, .inr ⟨j, b, t, oj, hg, hoj, ht, rfl⟩⟩
      · cases h
  · cases h

theorem wanted_none {o : Oper} {y : Nat → Option Bool} (h : o.guard = none) : Region.wanted o y = true := by simp [Region.wanted, h]

theorem wanted_some {ops : Array Oper} {o oj : Oper} {j t : Nat} {b : Bool} {b' : Option Bool} (s : Sim w0 I Zc N m S a w) (hg : o.guard = some (j, b)) (hj : ops.toList[j]? = some oj) (ht : oj.dst = some t) (hv : gval (S.fr t) = some b') :
    Region.wanted o (yielded ops a.tmps) = decide (b' = some b) := by
  have h := s.fr t
  have hj' : ops[j]? = some oj := by rw [← Array.getElem?_toList]; exact hj
  unfold gval at hv
  split at hv
  · rename_i e
    injection hv with hv; subst hv
    rw [e] at h
    have h : a.tmps.getD t undef = undef := h
    have hn : yielded ops a.tmps j = none := by
      simp only [yielded, hj', Option.bind_some, ht]
      rw [Array.getD_eq_getD_getElem?] at h
      cases hx : a.tmps[t]? with
      | none => rfl
      | some v =>
        rw [hx] at h
        simp at h
        rw [h]
        rfl
    simp [Region.wanted, hg, hn]
  · rename_i b0 e
    injection hv with hv; subst hv
    rw [e] at h
    have h := one_bool h
    have ht2 : a.tmps[t]? = some (.bool b0) := by
      rw [Array.getD_eq_getD_getElem?] at h
      cases hx : a.tmps[t]? with
      | none => rw [hx] at h; cases h
      | some v => rw [hx] at h; simp at h; rw [h]
    simp [Region.wanted, hg, yielded, hj', ht, ht2]
    cases b <;> cases b0 <;> rfl
  · cases hv

theorem ops_wp {ops : Array Oper} {Qc : Exit → Act → World → Prop} : ∀ (ol : List Oper) (nm : Nat) (l : List MOper) (S : St) (a : Act) (w : World) (m : Map) (Q : St → Prop), cOpers P N ops.toList nm ol = some l → Sim w0 I Zc N m S a w →
    awpOps P l S Q → (∀ S' m' a' w', Q S' → Sim w0 I Zc N m' S' a' w' → Qc .normal a' w') → wpList P ops Qc ol a w
  | [], nm, l, S, a, w, m, Q, hc, s, h, hq => by
    injection hc with hc; subst hc
    exact hq S m a w h s
  | o :: r, nm, l, S, a, w, m, Q, hc, s, h, hq => by
    simp only [cOpers, Option.bind_eq_some_iff, Option.map_eq_some_iff] at hc
    obtain ⟨x, hx, l', hl, rfl⟩ := hc
    obtain ⟨hd, hxd, hmo, hg⟩ := dstOk_of hx
    have go : awpOp P x.op S (fun v ob cnt => awpOps P l' (S.set x.dst v ob cnt) Q) → o.wp P a w (wpList P ops Qc r) Qc := fun h =>
      op_wp s hmo h _ _ fun v u w' m' ob cnt hk h1 h2 h3 => ops_wp r _ l' _ _ _ m' Q hl (by rw [hxd]; exact sim_put s hd h1 h2 h3) hk hq
    unfold awpOps at h
    rcases hg with ⟨g1, g2⟩ | ⟨j, b, t, oj, g1, g2, g3, g4⟩
    · rw [g2] at h
      simp only [wpList, wanted_none g1, if_true]
      exact .inl (go h)
    · rw [g4] at h
      obtain ⟨b', hb', h1, h2⟩ := h
      simp only [wpList, wanted_some s g1 g2 g3 hb']
      by_cases e : b' = some b
      · simp only [e, decide_true, if_true]
        exact .inl (go (h1 e))
      · simp only [e, decide_false, Bool.false_eq_true, if_false]
        refine ops_wp r _ l' _ _ _ m Q hl ?_ (h2 e) hq
        rw [hxd]
        exact sim_put s hd s.heap (Ext.refl ..) rfl

/-- The post condition, over worlds. -/
def CQ (w0 : World) (I : Ini) (Zc : Nat → Prop) (N : Nat) (Q : X → St → Prop) : Exit → Act → World → Prop
  | .normal, a, w => ∃ S m, Q .normal S ∧ Sim w0 I Zc N m S a w
  | .exit id, a, w => ∃ S m, Q (.exit id) S ∧ Sim w0 I Zc N m S a w
  | .ret, a, w => ∃ S m, Q .ret S ∧ Sim w0 I Zc N m S a w
  | _, _, _ => False

/-- What is asked of the rule for regions whose order is open. -/
def DSound (P : Program) (D : List (List Nat) → List MOper → St → (St → Prop) → Prop) : Prop :=
  ∀ (w0 : World) (I : Ini) (Zc : Nat → Prop) (N : Nat) (m : Map) (S : St) (a : Act) (w : World) (id nm : Nat) (ops : Array Oper) (l : List MOper) (Q : St → Prop) (Qc : Exit → Act → World → Prop),
    cOpers P N ops.toList nm ops.toList = some l → Sim w0 I Zc N m S a w → D (ops.toList.map depsOf) l S Q → (∀ S' m' a' w', Q S' → Sim w0 I Zc N m' S' a' w' → Qc .normal a' w') → (Code.region id ops true).wp P Qc a w

theorem code_wp {D : List (List Nat) → List MOper → St → (St → Prop) → Prop} (hD : DSound P D) : ∀ (c : Code) (mc : MCode) (Q : X → St → Prop) (S : St) (a : Act) (w : World) (m : Map), cCode P N c = some mc → Sim w0 I Zc N m S a w →
    awp P D mc Q S → c.wp P (CQ w0 I Zc N Q) a w := by
  intro c
  induction c with
  | skip =>
    intro mc Q S a w m hc s h
    injection hc with hc; subst hc
    exact wp_skip ⟨S, m, h, s⟩
  | region id ops draw =>
    intro mc Q S a w m hc s h
    cases draw with
    | false =>
      simp only [cCode, Option.map_eq_some_iff] at hc
      obtain ⟨l, hl, rfl⟩ := hc
      exact wp_region_list (ops_wp _ _ l S a w m _ hl s h fun S' m' a' w' hq hs => ⟨S', m', hq, hs⟩)
    | true =>
      simp only [cCode, Option.map_eq_some_iff] at hc
      obtain ⟨l, hl, rfl⟩ := hc
      exact hD w0 I Zc N m S a w id _ ops l _ _ hl s h fun S' m' a' w' hq hs => ⟨S', m', hq, hs⟩
  | seq x y ihx ihy =>
    intro mc Q S a w m hc s h
    simp only [cCode, Option.bind_eq_some_iff, Option.map_eq_some_iff] at hc
    obtain ⟨mx, hx, my, hy, rfl⟩ := hc
    refine wp_seq (wp_mono (ihx mx _ S a w m hx s h) fun e a' w' he => ?_)
    cases e with
    | normal =>
      obtain ⟨S', m', hq, hs⟩ := he
      exact ihy my Q S' a' w' m' hy hs hq
    | exit id => exact he
    | ret => exact he
    | goto l => exact he
    | panic ch => exact he
    | outgrown => exact he
  | cond c x y ihx ihy =>
    intro mc Q S a w m hc s h
    simp only [cCode, Option.bind_eq_some_iff, Option.map_eq_some_iff] at hc
    obtain ⟨c', hc', mx, hx, my, hy, rfl⟩ := hc
    obtain ⟨t, ht, h1, h2⟩ := h
    have e := arg_spec s hc'
    rw [ht] at e
    refine wp_cond (one_bool e) ?_
    cases t with
    | true => exact ihx mx Q S a w m hx s (h1 rfl)
    | false => exact ihy my Q S a w m hy s (h2 rfl)
  | block id b ih =>
    intro mc Q S a w m hc s h
    simp only [cCode, Option.map_eq_some_iff] at hc
    obtain ⟨mb, hb, rfl⟩ := hc
    refine wp_block (wp_mono (ih mb _ S a w m hb s h) fun e a' w' he => ?_)
    cases e with
    | normal => exact he
    | exit i =>
      obtain ⟨S', m', hq, hs⟩ := he
      simp only at hq
      simp only [Exit.inBlock]
      by_cases hi : i = id
      · rw [if_pos hi] at hq ⊢
        exact ⟨S', m', hq, hs⟩
      · rw [if_neg hi] at hq ⊢
        exact ⟨S', m', hq, hs⟩
    | ret => exact he
    | goto l => exact he
    | panic ch => exact he
    | outgrown => exact he
  | loop b ih =>
    intro mc Q S a w m hc s h
    simp only [cCode, Option.map_eq_some_iff] at hc
    obtain ⟨mb, hb, rfl⟩ := hc
    obtain ⟨J, μ, h0, hstep⟩ := h
    have key : ∀ (n : Nat) (S : St) (a : Act) (w : World) (m : Map), μ S < n → J S → Sim w0 I Zc N m S a w → Code.rounds P b (CQ w0 I Zc N Q) n a w := by
      intro n
      induction n with
      | zero => intro S a w m hn; omega
      | succ n ihn =>
        intro S a w m hn hi hs
        rw [rounds_succ]
        refine wp_mono (ih mb _ S a w m hb hs (hstep S hi)) fun e a' w' he => ?_
        cases e with
        | normal =>
          obtain ⟨S', m', ⟨hi', hlt⟩, hs'⟩ := he
          exact ihn S' a' w' m' (by omega) hi' hs'
        | exit id => exact he
        | ret => exact he
        | goto l => exact he
        | panic ch => exact he
        | outgrown => exact he
    exact wp_loop_rounds (μ S + 1) (key _ S a w m (Nat.lt_succ_self _) h0 s)
  | exit id =>
    intro mc Q S a w m hc s h
    injection hc with hc; subst hc
    exact wp_exit ⟨S, m, h, s⟩
  | ret =>
    intro mc Q S a w m hc s h
    injection hc with hc; subst hc
    exact wp_ret ⟨S, m, h, s⟩
  | rangeFunc f ps x y ihx ihy => intro mc Q S a w m hc; cases hc
  | scope b ih => intro mc Q S a w m hc; cases hc
  | label l => intro mc Q S a w m hc; cases hc
  | goto l => intro mc Q S a w m hc; cases hc
  | refuse why => intro mc Q S a w m hc; cases hc
end

/-! ### Functions -/
inductive MRes where
  | tmp (t : Nat)
  | cell (t : Nat) (agg : Bool) (sz : Nat)

def cRes (P : Program) : ResultVar → Option MRes
  | .tmp t => some (.tmp t)
  | .cell t ty => (aggB P ty).bind fun b => if b then (sizeB P ty).map (.cell t true) else some (.cell t false 1)

def cRess (P : Program) : List ResultVar → Option (List MRes)
  | [] => some []
  | x :: r => (cRes P x).bind fun y => (cRess P r).map (y :: ·)

structure MFunc where
  n : Nat
  res : List MRes
  body : MCode

def cFn (P : Program) (fn : Func) : Option MFunc := match fn.body with
  | some c => (cRess P fn.results.toList).bind fun r => (cCode P fn.ntmps c).map fun b => ⟨fn.ntmps, r, b⟩
  | none => none

/-- A result that one variable holds: one cell, or an aggregate. -/
def resOf (S : St) : MRes → Option (Bool × List V1)
  | .tmp t => match S.fr t with
    | .one v => some (false, [v])
    | .agg vs => some (true, vs)
    | _ => none
  | .cell t agg sz => match rdAt S sz (S.fr t) with
    | some vs => if agg then some (true, vs) else match vs with
      | [v] => some (false, [v])
      | _ => none
    | none => none

def resAll (S : St) : List MRes → Option (List (Bool × List V1))
  | [] => some []
  | x :: r => (resOf S x).bind fun y => (resAll S r).map (y :: ·)

def retOf (S : St) (l : List MRes) : Option AV := match l with
  | [x] => (resOf S x).bind fun y => match y with
    | (true, vs) => some (.agg vs)
    | (false, [v]) => some (.one v)
    | _ => none
  | l => (resAll S l).map .tup

def resSem (tmps : Array Value) : ResultVar → Sem Value
  | .tmp t => pure (tmps.getD t undef)
  | .cell p t => do loadVar t (← asAddr (tmps.getD p undef))

section
variable {P : Program} {a : Act} {w w0 : World} {I : Ini} {Zc : Nat → Prop} {N : Nat} {m : Map} {S : St}

theorem resOf_spec (s : Sim w0 I Zc N m S a w) {r : ResultVar} {x : MRes} {y : Bool × List V1} (hc : cRes P r = some x) (h : resOf S x = some y) :
    ∃ v, (resSem a.tmps r).run P w = .ok v w ∧ SVR w (vol m S.ob Zc) m S.ob y v := by
  cases r with
  | tmp t =>
    injection hc with hc; subst hc
    have hf := s.fr t
    simp only [resOf] at h
    split at h
    · rename_i v hv
      injection h with h; subst h
      rw [hv] at hf
      exact ⟨_, rfl, v, rfl, hf⟩
    · rename_i vs hv
      injection h with h; subst h
      rw [hv] at hf
      exact ⟨_, rfl, hf⟩
    · cases h
  | cell p t =>
    simp only [cRes, Option.bind_eq_some_iff] at hc
    obtain ⟨b, hb, hc⟩ := hc
    have key : ∀ sz vs, rdAt S sz (S.fr p) = some vs → ∃ (ad : Addr) (us : List Value), a.tmps.getD p undef = .pointer (some ad) ∧ vs.length = sz ∧ L1R w (vol m S.ob Zc) m S.ob vs us ∧ ∀ (j : Nat) u, us[j]? = some u → w.cell? (ad.add j) = some u :=
      fun sz vs h => rd_spec s (s.fr p) h
    cases b with
    | true =>
      simp only [if_true, Option.map_eq_some_iff] at hc
      obtain ⟨n, hn, rfl⟩ := hc
      simp only [resOf, if_true] at h
      split at h
      · rename_i vs hvs
        injection h with h; subst h
        obtain ⟨ad, us, hv, hl, h2, h3⟩ := key _ _ hvs
        have hlen : us.length = n := by rw [← h2.1]; exact hl
        have hrun := run_loadCells_list (P := P) w ad us h3
        refine ⟨.agg us.toArray, ?_, us.toArray, rfl, by simpa using h2⟩
        simp only [resSem, hv, asAddr, loadVar, Sem.run_bind, Sem.run_pure, Result.andThen_ok, run_isAgg_of hb, if_true, size_spec hn, ← hlen, hrun]
      · cases h
    | false =>
      simp only [Bool.false_eq_true, if_false] at hc
      injection hc with hc; subst hc
      simp only [resOf, Bool.false_eq_true, if_false] at h
      split at h
      · rename_i vs hvs
        split at h
        · rename_i v
          injection h with h; subst h
          obtain ⟨ad, us, hv, hl, h2, h3⟩ := key _ _ hvs
          match us, h2.1 with
          | [u], _ =>
            have hc := h3 0 u rfl
            rw [show ad.add 0 = ad from rfl] at hc
            refine ⟨u, ?_, v, rfl, h2.2 0 v u rfl rfl⟩
            simp only [resSem, hv, asAddr, loadVar, Sem.run_bind, Sem.run_pure, Result.andThen_ok, run_isAgg_of hb, Bool.false_eq_true, if_false, run_load, hc]
        · cases h
      · cases h

theorem resAll_spec (s : Sim w0 I Zc N m S a w) : ∀ {rs : List ResultVar} {xs : List MRes} {ys : List (Bool × List V1)}, cRess P rs = some xs → resAll S xs = some ys →
    ∃ vs, (rs.mapM (resSem a.tmps)).run P w = .ok vs w ∧ ys.length = vs.length ∧
      ∀ (j : Nat) y v, ys[j]? = some y → vs[j]? = some v → SVR w (vol m S.ob Zc) m S.ob y v
  | [], xs, ys, hc, h => by
    injection hc with hc; subst hc
    injection h with h; subst h
    exact ⟨[], by simp, rfl, fun j y v hy => by simp at hy⟩
  | r :: rs, xs, ys, hc, h => by
    simp only [cRess, Option.bind_eq_some_iff, Option.map_eq_some_iff] at hc
    obtain ⟨x, hx, xs', hxs, rfl⟩ := hc
    simp only [resAll, Option.bind_eq_some_iff, Option.map_eq_some_iff] at h
    obtain ⟨y, hy, ys', hys, rfl⟩ := h
    obtain ⟨v, hv, hr⟩ := resOf_spec s hx hy
    obtain ⟨vs, hvs, hl, hrs⟩ := resAll_spec s hxs hys
    refine ⟨v :: vs, ?_, by simp [hl], fun j p q hp hq => ?_⟩
    · simp only [List.mapM_cons, Sem.run_bind, hv, Result.andThen_ok, hvs, Sem.run_pure]
    · cases j with
      | zero => simp at hp hq; subst hp hq; exact hr
      | succ j => exact hrs j p q (by simpa using hp) (by simpa using hq)

theorem ret_spec (s : Sim w0 I Zc N m S a w) {fn : Func} {xs : List MRes} {r : AV} (hc : cRess P fn.results.toList = some xs) (h : retOf S xs = some r) :
    ∃ v, (results fn a.tmps).run P w = .ok v w ∧ AVR w (vol m S.ob Zc) m S.ob r v := by
  have run : ∀ vs, (fn.results.toList.mapM (resSem a.tmps)).run P w = .ok vs w →
      (results fn a.tmps).run P w = .ok (if h : vs.toArray.size = 1 then vs.toArray[0] else .tuple vs.toArray) w := by
    intro vs hvs
    have e : results fn a.tmps = (do
        let vs ← fn.results.mapM (resSem a.tmps)
        pure (if h : vs.size = 1 then vs[0] else .tuple vs)) := by
      unfold results
      congr 2
    rw [e]
    simp only [Array.mapM_eq_mapM_toList, Sem.run_bind, Sem.run_map, hvs, Result.andThen_ok, Sem.run_pure]
  unfold retOf at h
  split at h
  · rename_i x
    simp only [Option.bind_eq_some_iff] at h
    obtain ⟨y, hy, h⟩ := h
    obtain ⟨vs, h1, h2, h3⟩ := resAll_spec s hc (show resAll S [x] = some [y] by simp [resAll, hy])
    match vs, h2 with
    | [v], _ =>
      refine ⟨v, by rw [run _ h1]; simp, ?_⟩
      have hr := h3 0 y v rfl rfl
      split at h
      · injection h with h; subst h
        exact hr
      · injection h with h; subst h
        obtain ⟨q, hq, hr⟩ := hr
        injection hq with hq
        subst hq
        exact hr
      · cases h
  · rename_i hne
    simp only [Option.map_eq_some_iff] at h
    obtain ⟨ys, hys, rfl⟩ := h
    obtain ⟨vs, h1, h2, h3⟩ := resAll_spec s hc hys
    have hlen : ∀ (xs : List MRes) (ys : List (Bool × List V1)), resAll S xs = some ys → ys.length = xs.length := by
      intro xs
      induction xs with
      | nil => intro ys h; injection h with h; subst h; rfl
      | cons x r ih =>
        intro ys h
        simp only [resAll, Option.bind_eq_some_iff, Option.map_eq_some_iff] at h
        obtain ⟨y, _, ys', h', rfl⟩ := h
        simp [ih ys' h']
    have hv : vs.toArray.size ≠ 1 := by
      simp only [List.size_toArray]
      intro e
      have e2 := hlen _ _ hys
      obtain ⟨x, rfl⟩ := List.length_eq_one_iff.1 (show xs.length = 1 by omega)
      exact hne x rfl
    refine ⟨.tuple vs.toArray, by rw [run _ h1, dif_neg hv], vs.toArray, rfl, by simpa using h2, fun j y v hy hu => h3 j y v hy (by simpa using hu)⟩
end

/-- A call's first frame. -/
def frameOf (args : List AV) (t : Nat) : AV := match args[t]? with
  | some x => x
  | none => .undef

section
variable {P : Program}

theorem frame_getD (cargs : Array Value) (n t : Nat) : (cargs ++ Array.replicate (n - cargs.size) undef).getD t undef = cargs.getD t undef := by
  simp only [Array.getD_eq_getD_getElem?, Array.getElem?_append]
  split
  · rfl
  · rename_i h
    rw [Array.getElem?_eq_none (by omega : cargs.size ≤ t)]
    simp only [Array.getElem?_replicate]
    split <;> rfl

theorem cFn_spec {fn : Func} {mf : MFunc} (h : cFn P fn = some mf) : ∃ c, fn.body = some c ∧ cRess P fn.results.toList = some mf.res ∧ cCode P fn.ntmps c = some mf.body ∧ mf.n = fn.ntmps := by
  unfold cFn at h
  split at h
  · rename_i c hc
    simp only [Option.bind_eq_some_iff, Option.map_eq_some_iff] at h
    obtain ⟨r, hr, b, hb, rfl⟩ := h
    exact ⟨c, hc, hr, hb, rfl⟩
  · cases h

theorem callable_of {f : FuncId} {fn : Func} (hfn : P.funcs[f]? = some fn) (h : ((fn.name != "runtime.NumGoroutine") && fn.body.isSome) = true) : callable P f = true := by
  unfold callable
  rw [hfn]
  exact h

theorem callS_of {D : List (List Nat) → List MOper → St → (St → Prop) → Prop} (hD : DSound P D) {f : FuncId} {fn : Func} {mf : MFunc} {args : List AV} {ob : Nm → Option Ob} {cnt : Nat → Nat} {R : AV → (Nm → Option Ob) → (Nat → Nat) → Prop}
    (hfn : P.funcs[f]? = some fn) (hc : cFn P fn = some mf) (hcb : callable P f = true) (hn : args.length ≤ mf.n)
    (h : awp P D mf.body (fun x S => match x with | .exit _ => False | _ => ∃ r, retOf S mf.res = some r ∧ R r S.ob S.cnt) ⟨frameOf args, ob, cnt⟩) : CallS P f args ob cnt R := by
  obtain ⟨c, hbody, hres, hcode, hN⟩ := cFn_spec hc
  refine ⟨hcb, fun w0 Zc m w cargs hr hlen hargs => calls_of_wp hfn hbody ?_⟩
  have s0 : Sim w0 ⟨w, m, ob⟩ Zc fn.ntmps m ⟨frameOf args, ob, cnt⟩ { tmps := cargs ++ Array.replicate (fn.ntmps - cargs.size) undef, defers := [] } w := by
    refine ⟨hr, rfl, ?_, fun t => ?_, Ext.refl ..⟩
    · simp only [Array.size_append, Array.size_replicate]
      omega
    · show AVR _ _ _ _ (frameOf args t) _
      rw [frame_getD]
      unfold frameOf
      split
      · rename_i x hx
        have ht : t < cargs.size := by rw [← hlen]; exact (List.getElem?_eq_some_iff.1 hx).1
        refine hargs t x _ hx ?_
        rw [Array.getD_eq_getD_getElem?, Array.getElem?_eq_getElem ht]
        rfl
      · rename_i hx
        have ht : cargs.size ≤ t := by
          rw [← hlen]
          exact List.getElem?_eq_none_iff.1 hx
        show cargs.getD t undef = undef
        rw [Array.getD_eq_getD_getElem?, Array.getElem?_eq_none ht]
        rfl
  refine wp_mono (code_wp hD c mf.body _ _ _ w m hcode s0 h) fun e a' w' he => ?_
  have fin : ∀ S' m', (∃ r, retOf S' mf.res = some r ∧ R r S'.ob S'.cnt) → Sim w0 ⟨w, m, ob⟩ Zc fn.ntmps m' S' a' w' → a'.defers = [] ∧ ∃ v, (results fn a'.tmps).run P w' = .ok v w' ∧
      ∃ v_1 r ob' cnt' m', Ending.returned v = .returned v_1 ∧ R r ob' cnt' ∧ HR w0 Zc m' ob' cnt' w' ∧ Ext w (vol m ob Zc) m ob w' (vol m' ob' Zc) m' ob' ∧ AVR w' (vol m' ob' Zc) m' ob' r v_1 := by
    rintro S' m' ⟨r, hr1, hr2⟩ hs
    obtain ⟨v, hv1, hv2⟩ := ret_spec hs hres hr1
    exact ⟨hs.defers, v, hv1, v, r, _, _, m', rfl, hr2, hs.heap, hs.past, hv2⟩
  cases e with
  | normal =>
    obtain ⟨S', m', hq, hs⟩ := he
    exact fin S' m' hq hs
  | ret =>
    obtain ⟨S', m', hq, hs⟩ := he
    exact fin S' m' hq hs
  | exit i =>
    obtain ⟨S', m', hq, hs⟩ := he
    exact hq.elim
  | goto l => exact he.elim
  | panic ch => exact he.elim
  | outgrown => exact he.elim
end

/-! ### Contracts over trees -/
def C.v1 (c : C) : V1 := .t c

def TV.av : TV → AV
  | (true, cs) => .agg (cs.map .t)
  | (false, [c]) => .one (.t c)
  | _ => .undef

def untree : List V1 → Option (List C)
  | [] => some []
  | .t c :: r => (untree r).map (c :: ·)
  | _ => none

def treeCell (S : St) : V1 → Option C
  | .t c => some c
  | .nil => some (.sl 0 [])
  | .row o => match S.live o with
    | some x => if x.isRow = true then (untree x.cells).map (.sl x.n) else none
    | none => none
  | _ => none

def treeCells (S : St) : List V1 → Option (List C)
  | [] => some []
  | v :: r => (treeCell S v).bind fun c => (treeCells S r).map (c :: ·)

def treeTups (S : St) : List (Bool × List V1) → Option (List TV)
  | [] => some []
  | (b, vs) :: r => (treeCells S vs).bind fun cs => (treeTups S r).map ((b, cs) :: ·)

def treeOf (S : St) : AV → Option TR
  | .one v => (treeCell S v).map fun c => .sv (false, [c])
  | .agg vs => (treeCells S vs).map fun cs => .sv (true, cs)
  | .tup l => (treeTups S l).map .tup
  | .undef => none

def noOb : Nm → Option Ob := fun _ => none
def noCnt : Nat → Nat := fun _ => 0

section
variable {P : Program} {a : Act} {w w0 : World} {Zc : Nat → Prop} {m : Map} {ob : Nm → Option Ob} {cnt : Nat → Nat}

theorem untree_spec : ∀ {vs : List V1} {cs : List C}, untree vs = some cs → vs = cs.map .t
  | [], cs, h => by injection h with h; subst h; rfl
  | v :: r, cs, h => by
    unfold untree at h
    split at h
    · cases ‹v :: r = []›
    · rename_i c r' e
      injection e with e1 e2
      subst e1 e2
      simp only [Option.map_eq_some_iff] at h
      obtain ⟨cs', hcs, rfl⟩ := h
      rw [untree_spec hcs]
      rfl
    · cases h

theorem treeCell_spec {S : St} (h : HR w0 Zc m S.ob S.cnt w) {x : V1} {c : C} {v : Value} (hx : treeCell S x = some c) (hv : V1R w (vol m S.ob Zc) m S.ob x v) : CR w Zc c v := by
  have wk : ∀ {c : C} {v : Value}, CR w (vol m S.ob Zc) c v → CR w Zc c v := fun h => h.weaken fun b hb => .inl hb
  unfold treeCell at hx
  split at hx
  · injection hx with hx; subst hx
    exact wk hv
  · injection hx with hx; subst hx
    obtain ⟨A, rfl⟩ : ∃ A, v = .slice A 0 0 := hv
    exact .sl 0 0 [] A (fun _ => default) (Nat.le_refl _) (fun h => by simp at h) (fun j c h => by simp at h)
  · rename_i o
    split at hx
    · rename_i y hy
      split at hx
      · rename_i hrow
        simp only [Option.map_eq_some_iff] at hx
        obtain ⟨cs, hcs, rfl⟩ := hx
        obtain ⟨hob, hlive⟩ := live_spec hy
        obtain ⟨y', hy', _, rfl⟩ := hv
        rw [hob] at hy'
        injection hy' with hy'
        subst hy'
        obtain ⟨hbase, arr, h1, h2, h3⟩ := h.obs _ _ hob hlive
        rw [if_pos hrow] at h2
        have hc := untree_spec hcs
        have hlen : y.cells.length = cs.length := by rw [hc]; simp
        have hcell : ∀ (j : Nat) c, cs[j]? = some c → ∃ u, arr[j]? = some u ∧ CR w (vol m S.ob Zc) c u := by
          intro j c hj
          obtain ⟨u, g1, _, g3⟩ := h3 j (.t c) (by rw [hc]; simp [hj])
          exact ⟨u, g1, g3⟩
        refine .sl y.n (m.cap o) cs (some ⟨m.at_ o, 0, none⟩) (fun j => arr[j]?.getD default) h2.2.1 (fun _ => ⟨_, rfl, fun hz => ?_, fun j hj => ?_⟩) (fun j c hj => ?_)
        · have := h.zc _ hz
          simp only at this
          omega
        · rw [add_ptr, Nat.zero_add, cell_of_row w _ _ _ _ _ h1]
          obtain ⟨u, g1, _⟩ := hcell j cs[j] (List.getElem?_eq_getElem hj)
          rw [g1]
          rfl
        · obtain ⟨u, g1, g2⟩ := hcell j c hj
          rw [g1]
          exact wk g2
      · cases hx
    · cases hx
  · cases hx

theorem treeCells_spec {S : St} (h : HR w0 Zc m S.ob S.cnt w) : ∀ {xs : List V1} {cs : List C} {us : List Value}, treeCells S xs = some cs → L1R w (vol m S.ob Zc) m S.ob xs us → TLR w Zc cs us
  | [], cs, us, hx, hl => by
    injection hx with hx; subst hx
    exact ⟨hl.1, fun j c u hc => by simp at hc⟩
  | v :: r, cs, us, hx, hl => by
    simp only [treeCells, Option.bind_eq_some_iff, Option.map_eq_some_iff] at hx
    obtain ⟨c, hc, cs', hcs, rfl⟩ := hx
    cases us with
    | nil => exact absurd hl.1 (by simp)
    | cons u us =>
      have ih := treeCells_spec h (us := us) hcs ⟨by simpa using hl.1, fun j p q hp hq => hl.2 (j + 1) p q (by simpa using hp) (by simpa using hq)⟩
      refine ⟨by simpa using ih.1, fun j p q hp hq => ?_⟩
      cases j with
      | zero =>
        simp at hp hq
        subst hp hq
        exact treeCell_spec h hc (hl.2 0 v u rfl rfl)
      | succ j => exact ih.2 j p q (by simpa using hp) (by simpa using hq)

theorem treeTups_spec {S : St} (h : HR w0 Zc m S.ob S.cnt w) : ∀ {xs : List (Bool × List V1)} {l : List TV}, treeTups S xs = some l → l.length = xs.length ∧
    ∀ (j : Nat) s x u, l[j]? = some s → xs[j]? = some x → SVR w (vol m S.ob Zc) m S.ob x u → TVR w Zc s u
  | [], l, hx => by
    injection hx with hx; subst hx
    exact ⟨rfl, fun j s x u hs => by simp at hs⟩
  | (b, vs) :: r, l, hx => by
    simp only [treeTups, Option.bind_eq_some_iff, Option.map_eq_some_iff] at hx
    obtain ⟨cs, hcs, l', hl', rfl⟩ := hx
    obtain ⟨i1, i2⟩ := treeTups_spec h hl'
    refine ⟨by simp [i1], fun j s x u hs hx hu => ?_⟩
    cases j with
    | zero =>
      simp at hs hx
      subst hs hx
      cases b with
      | true =>
        obtain ⟨us, rfl, hl⟩ := hu
        exact ⟨us, rfl, treeCells_spec h hcs hl⟩
      | false =>
        obtain ⟨y, rfl, hy⟩ := hu
        simp only [treeCells, Option.bind_eq_some_iff, Option.map_eq_some_iff] at hcs
        obtain ⟨c, hc, cs', hcs', rfl⟩ := hcs
        injection hcs' with hcs'
        subst hcs'
        exact ⟨c, rfl, treeCell_spec h hc hy⟩
    | succ j => exact i2 j s x u (by simpa using hs) (by simpa using hx) hu

theorem treeOf_spec {S : St} (h : HR w0 Zc m S.ob S.cnt w) {x : AV} {r : TR} {v : Value} (hx : treeOf S x = some r) (hv : AVR w (vol m S.ob Zc) m S.ob x v) : TRR w Zc r v := by
  cases x with
  | one x =>
    simp only [treeOf, Option.map_eq_some_iff] at hx
    obtain ⟨c, hc, rfl⟩ := hx
    exact ⟨c, rfl, treeCell_spec h hc hv⟩
  | agg vs =>
    simp only [treeOf, Option.map_eq_some_iff] at hx
    obtain ⟨cs, hcs, rfl⟩ := hx
    obtain ⟨us, rfl, hl⟩ := hv
    exact ⟨us, rfl, treeCells_spec h hcs hl⟩
  | tup l =>
    simp only [treeOf, Option.map_eq_some_iff] at hx
    obtain ⟨l', hl', rfl⟩ := hx
    obtain ⟨us, rfl, h1, h2⟩ := hv
    obtain ⟨i1, i2⟩ := treeTups_spec h hl'
    refine ⟨us, rfl, by rw [i1]; exact h1, fun j s u hs hu => ?_⟩
    have hj : j < l.length := by rw [← i1]; exact (List.getElem?_eq_some_iff.1 hs).1
    exact i2 j s _ u hs (List.getElem?_eq_getElem hj) (h2 j _ u (List.getElem?_eq_getElem hj) hu)
  | undef => cases hx

theorem callOK_of_S {f : FuncId} {args : List TV} {r : TR} (h : CallS P f (args.map TV.av) noOb noCnt (fun x ob cnt => treeOf ⟨fun _ => .undef, ob, cnt⟩ x = some r)) : CallOK P f args r := by
  refine ⟨h.1, fun w Z cargs hz hlen hargs => ?_⟩
  let m0 : Map := ⟨fun _ => 0, fun _ => 0⟩
  have hr : HR w Z m0 noOb noCnt w := ⟨Below.refl _ _, hz, fun _ _ _ => rfl, fun _ _ h => (by cases h), fun _ _ _ _ h => (by cases h)⟩
  have hv : ∀ b, vol m0 noOb Z b → Z b := by
    rintro b (h | ⟨o, x, h, _⟩)
    · exact h
    · cases h
  refine (h.2 w Z m0 w cargs hr (by simpa using hlen) (fun j x u hx hu => ?_)).mono ?_
  · simp only [List.getElem?_map, Option.map_eq_some_iff] at hx
    obtain ⟨s, hs, rfl⟩ := hx
    have ht := hargs j s u hs hu
    obtain ⟨b, cs⟩ := s
    cases b with
    | true =>
      obtain ⟨us, rfl, h1, h2⟩ := ht
      refine ⟨us, rfl, by simpa using h1, fun i v q hv' hq => ?_⟩
      simp only [List.getElem?_map, Option.map_eq_some_iff] at hv'
      obtain ⟨c, hc, rfl⟩ := hv'
      exact (h2 i c q hc hq).weaken hv
    | false =>
      obtain ⟨c, rfl, hc⟩ := ht
      exact CR.weaken hv hc
  · rintro e w' ⟨v, x, ob', cnt', m', rfl, hx, h1, h2, h3⟩
    exact ⟨v, rfl, treeOf_spec (S := ⟨fun _ => .undef, ob', cnt'⟩) h1 hx h3, h1.below⟩
end
end Go.Proofs.Ythapbbpdcjmmfaa.Abs
