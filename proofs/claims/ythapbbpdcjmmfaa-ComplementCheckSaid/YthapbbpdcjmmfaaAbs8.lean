/-
  Go's operations come to the small code, and do what it says. No condition beyond those that each statement names.
-/
import Derived.Test.YthapbbpdcjmmfaaAbs7
import Derived.Laws.StructEq
import Derived.Laws.Small
namespace Go.Proofs.Ythapbbpdcjmmfaa.Abs
open Go.RowKit
set_option linter.unusedVariables false
set_option linter.unusedSimpArgs false

/-- A struct of whole numbers alone, one cell each, in order. -/
def eqOK (P : Program) : Nat → List Field → Bool
  | _, [] => true
  | i, f :: r => (f.name != "_") && (f.offset == i) && (match P.underlying f.type with | some (.int _) => true | _ => false) && eqOK P (i + 1) r

def intV (x : IntKind × Int) : Value := .int x.1 x.2

theorem eqFields_spec {P : Program} {w : World} (d : Nat) (p q : List (IntKind × Int)) (hk : p.map (·.1) = q.map (·.1)) : ∀ (fs : List Field) (i : Nat), eqOK P i fs = true → i + fs.length = p.length →
    (Op.eqFields (d + 1) (p.map intV).toArray (q.map intV).toArray fs).run P w = .ok (decide ((p.drop i).map (·.2) = (q.drop i).map (·.2))) w
  | [], i, _, hl => by
    have hpq : p.length = q.length := by simpa using congrArg List.length hk
    simp only [List.length_nil, Nat.add_zero] at hl
    rw [List.drop_eq_nil_of_le (by omega), List.drop_eq_nil_of_le (by omega)]
    simp [Op.eqFields]
  | f :: r, i, h, hl => by
    have hpq : p.length = q.length := by simpa using congrArg List.length hk
    simp only [List.length_cons] at hl
    simp only [eqOK, Bool.and_eq_true, beq_iff_eq, bne_iff_ne] at h
    obtain ⟨⟨⟨hn, ho⟩, hu⟩, hr⟩ := h
    have ih := eqFields_spec (w := w) d p q hk r (i + 1) hr (by omega)
    have hip : i < p.length := by omega
    have hiq : i < q.length := by omega
    split at hu
    · rename_i k hue
      have hagg : aggB P f.type = some false := by simp [aggB, hue]
      have hpart : ∀ (l : List (IntKind × Int)) (hl : i < l.length), (part f.type (l.map intV).toArray f.offset).run P w = .ok (intV l[i]) w := by
        intro l hl
        simp [part, run_isAgg_of hagg, ho, hl]
      have hkk : p[i].1 = q[i].1 := by
        have := congrArg (fun l : List IntKind => l[i]?) hk
        simpa [hip, hiq] using this
      rw [Op.eqFields]
      simp only [if_pos hn, Sem.run_bind, hpart p hip, hpart q hiq, Result.andThen_ok]
      have he : (Op.equalIn (d + 1) f.type (intV p[i]) (intV q[i])).run P w = .ok (p[i].2 == q[i].2) w := by
        simp [intV, Op.equalIn, run_underlying hue, hkk]
      simp only [he, Result.andThen_ok]
      rw [List.drop_eq_getElem_cons hip, List.drop_eq_getElem_cons hiq]
      by_cases e : p[i].2 = q[i].2
      · simp only [e, beq_self_eq_true, Bool.not_true, Bool.false_eq_true, if_false, ih, List.map_cons, List.cons.injEq, true_and]
      · have e1 : (p[i].2 == q[i].2) = false := by simpa using e
        have e2 : decide ((p[i] :: p.drop (i + 1)).map (·.2) = (q[i] :: q.drop (i + 1)).map (·.2)) = false := decide_eq_false (by rw [List.map_cons, List.map_cons]; intro h; injection h with h _; exact e h)
        rw [e1, e2]
        rfl
    · cases hu

section ops
variable {P : Program} {o : Oper} {a : Act} {w w0 : World} {I : Ini} {Zc : Nat → Prop} {N : Nat} {m : Map} {S : St}

theorem intsOf_spec {w : World} {Z : Nat → Prop} {m : Map} {ob : Nm → Option Ob} : ∀ {xs : List V1} {us : List Value} {p : List (IntKind × Int)}, intsOf xs = some p → L1R w Z m ob xs us → us = p.map intV
  | [], us, p, h, hl => by
    injection h with h; subst h
    exact List.eq_nil_of_length_eq_zero hl.1.symm
  | v :: r, us, p, h, hl => by
    cases us with
    | nil => exact absurd hl.1 (by simp)
    | cons u us =>
      have h0 := hl.2 0 v u rfl rfl
      unfold intsOf at h
      split at h
      · cases ‹v :: r = []›
      · rename_i k n r' e
        injection e with e1 e2
        subst e1 e2
        simp only [Option.map_eq_some_iff] at h
        obtain ⟨p', hp, rfl⟩ := h
        have ih := intsOf_spec (w := w) (Z := Z) (m := m) (ob := ob) (us := us) hp ⟨by simpa using hl.1, fun j a b ha hb => hl.2 (j + 1) a b (by simpa using ha) (by simpa using hb)⟩
        rw [ih, List.map_cons]
        cases (show CR w Z (.int k n) u from h0)
        rfl
      · cases h

theorem go_eqS {op : BinOp} {t t' : TypeId} {x y : Operand} {x' y' : Arg} {fields : Array Field} {xs ys : List V1} {p q : List (IntKind × Int)} (s : Sim w0 I Zc N m S a w) (hop : op = .eql ∨ op = .neq) (ho : o.op = .binOp op t x y t') (hx : cArg x = some x') (hy : cArg y = some y')
    (ht : P.underlying t = some (.struct fields)) (hs : P.stoodInHeld t = false) (hg : P.eqGuardType P.depth t = false) (hok : eqOK P 0 fields.toList = true) (hlen : p.length = fields.size)
    (h1 : x'.ev S = .agg xs) (h2 : y'.ev S = .agg ys) (hp : intsOf xs = some p) (hq : intsOf ys = some q) (hk : p.map (·.1) = q.map (·.1)) :
    Goes P o a w w0 Zc m S (S.val (.one (.t (.bool (if op = .neq then !decide (p.map (·.2) = q.map (·.2)) else decide (p.map (·.2) = q.map (·.2))))))) := by
  have e1 := arg_spec s hx
  rw [h1] at e1
  obtain ⟨us, e1, l1⟩ := e1
  have e2 := arg_spec s hy
  rw [h2] at e2
  obtain ⟨vs, e2, l2⟩ := e2
  have u1 : us = (p.map intV).toArray := by rw [← intsOf_spec hp l1]
  have u2 : vs = (q.map intV).toArray := by rw [← intsOf_spec hq l2]
  subst u1 u2
  have hf : P.fieldsOf t = fields := by simp [Program.fieldsOf, ht]
  have heq : (Op.equal t (.agg (p.map intV).toArray) (.agg (q.map intV).toArray)).run P w = .ok (decide (p.map (·.2) = q.map (·.2))) w := by
    unfold Op.equal
    rw [show Op.maxDepth = 9998 + 1 + 1 from rfl, run_equalIn_struct (P := P) w _ t _ _ (by rw [hf]; exact ht) hs, hf]
    have := eqFields_spec (P := P) (w := w) 9998 p q hk fields.toList 0 hok (by simpa using hlen.symm)
    simpa using this
  have hgd : ∀ op, (eqGuard op t x y (.agg (p.map intV).toArray) (.agg (q.map intV).toArray)).run P w = .ok () w := by
    intro op
    cases op <;> simp [eqGuard, hg]
  rcases hop with rfl | rfl
  · refine goes_val s (u := .bool (decide (p.map (·.2) = q.map (·.2)))) ?_ (CR.bool _)
    simp only [execOp, ho, e1, e2, Sem.run_bind, hgd, Result.andThen_ok, binOp, heq, Sem.run_pure]
  · refine goes_val s (u := .bool (!decide (p.map (·.2) = q.map (·.2)))) ?_ (CR.bool _)
    simp only [execOp, ho, e1, e2, Sem.run_bind, hgd, Result.andThen_ok, binOp, heq, Sem.run_pure]

theorem go_eqB {op : BinOp} {t t' : TypeId} {x y : Operand} {x' y' : Arg} {p q : Bool} (s : Sim w0 I Zc N m S a w) (hop : op = .eql ∨ op = .neq) (ho : o.op = .binOp op t x y t') (hx : cArg x = some x') (hy : cArg y = some y')
    (ht : P.underlying t = some .bool) (h1 : x'.ev S = .one (.t (.bool p))) (h2 : y'.ev S = .one (.t (.bool q))) :
    Goes P o a w w0 Zc m S (S.val (.one (.t (.bool (if op = .neq then !(p == q) else p == q))))) := by
  have e1 := arg_spec s hx
  rw [h1] at e1
  have e2 := arg_spec s hy
  rw [h2] at e2
  have e1 := one_bool e1
  have e2 := one_bool e2
  have heq : (Op.equal t (.bool p) (.bool q)).run P w = .ok (p == q) w := by
    unfold Op.equal
    rw [show Op.maxDepth = 9999 + 1 from rfl, run_equalIn_bool w 9999 t p q ht]
  have hgd : ∀ op, (eqGuard op t x y (.bool p) (.bool q)).run P w = .ok () w := by
    intro op
    cases op <;> simp [eqGuard]
  rcases hop with rfl | rfl
  · refine goes_val s (u := .bool (p == q)) ?_ (CR.bool _)
    simp only [execOp, ho, e1, e2, Sem.run_bind, hgd, Result.andThen_ok, binOp, heq, Sem.run_pure]
  · refine goes_val s (u := .bool (!(p == q))) ?_ (CR.bool _)
    simp only [execOp, ho, e1, e2, Sem.run_bind, hgd, Result.andThen_ok, binOp, heq, Sem.run_pure]
end ops
end Go.Proofs.Ythapbbpdcjmmfaa.Abs
