/-
  How an operation of Go's is compiled, and that its effect is the world's. No condition beyond those that each statement names.
-/
import Derived.Test.YthapbbpdcjmmfaaAbs8
namespace Go.Proofs.Ythapbbpdcjmmfaa.Abs
open Go.RowKit
set_option linter.unusedVariables false
set_option linter.unusedSimpArgs false

def allTree (l : List V1) : Bool := l.all fun v => match v with | .t _ => true | _ => false

/-- What is known of a slice's element type. -/
def cElem (P : Program) (t : TypeId) : Option (TypeId × TypeInfo × Value) := match P.underlying t with
  | some (.slice e) => (P.info? e).bind fun i => i.zero.bind fun z => if z.cells.size = i.size ∧ 0 < i.size then some (e, i, z) else none
  | _ => none

def cBuiltin (P : Program) (nm : Nat) (b : Builtin) (ts : List TypeId) (xs : List Operand) : Option MOp := match b, ts, xs with
  | .len, [t], [x] => match P.underlying t with
    | some (.slice _) => (cArg x).map .len
    | _ => none
  | .append, [t, t'], [x, y] => if t = t' then (cElem P t).bind fun e => (cArg x).bind fun x => (cArg y).map fun y => .append nm e.1 e.2.1.size e.2.1.bytes x y else none
  | .max, [_, _], [x, y] => (cArg x).bind fun x => (cArg y).map fun y => .minmax true x y
  | .min, [_, _], [x, y] => (cArg x).bind fun x => (cArg y).map fun y => .minmax false x y
  | _, _, _ => none

def cCall (P : Program) (nm : Nat) (c : Call) : Option MOp := match c.callee with
  | .builtin b => cBuiltin P nm b c.argTypes.toList c.args.toList
  | .value f => (cArg f).bind fun f => (cArgs c.args.toList).map (.call f nm)
  | _ => none

def cOp (P : Program) (nm : Nat) (o : Oper) : Option MOp := match o.op with
  | .move x => (cArg x).map .mv
  | .assign x => (cArg x).map .mv
  | .pick c a b => (cArg c).bind fun c => (cArg a).bind fun a => (cArg b).map fun b => .pick c a b
  | .alloc e => (zeroOf P e).map (.alloc nm e)
  | .box e x => (cArg x).map (.box nm e)
  | .build t parts => match P.underlying t with
    | some (.struct fields) => (zeroOf P t).bind fun z => (fields.toList.mapM (fun f => (P.info? f.type).map fun i => (f.offset, i.size))).bind fun pl => (cParts (pl.toArray[·]?) parts.toList).map (.build z)
    | _ => none
  | .buildSlice t len parts => (cElem P t).bind fun e => if len * e.2.1.size ≤ 2 ^ 24 then
      (v1s ((Array.range (len * e.2.1.size)).map (e.2.2.cells[· % e.2.2.cells.size]!)).toList).bind fun z => (cParts (fun i => some (i * e.2.1.size, e.2.1.size)) parts.toList).map (.mkrow nm e.1 e.2.1.size len z) else none
  | .load t x => (aggB P t).bind fun b => if b then (sizeB P t).bind fun n => (cArg x).map (.load true n) else (cArg x).map (.load false 1)
  | .store t x y => (sizeB P t).bind fun n => (cArg x).bind fun x => (cArg y).map fun y => .store n x y
  | .nilCheck x => (cArg x).map .nilck
  | .binOp .eql t x (.const (.slice none 0 0)) _ => match P.underlying t with
    | some (.slice _) => (cArg x).map (.isnil false)
    | _ => none
  | .binOp .neq t x (.const (.slice none 0 0)) _ => match P.underlying t with
    | some (.slice _) => (cArg x).map (.isnil true)
    | _ => none
  | .binOp op t x y _ => (cArg x).bind fun x => (cArg y).bind fun y => match P.underlying t with
    | some .bool => match op with
      | .eql => some (.eqS false 0 x y)
      | .neq => some (.eqS true 0 x y)
      | _ => none
    | some (.struct fields) => if P.stoodInHeld t = false ∧ P.eqGuardType P.depth t = false ∧ eqOK P 0 fields.toList = true ∧ fields.size ≠ 0 then (match op with | .eql => some (.eqS false fields.size x y) | .neq => some (.eqS true fields.size x y) | _ => none) else none
    | _ => some (.bin op x y)
  | .unOp .not _ x => (cArg x).map .not
  | .convert t t' x => match P.underlying t, P.underlying t' with
    | some _, some (.int k) => (cArg x).map (.conv k)
    | _, _ => none
  | .makeFunc (.func f) first caps => if first.size = 0 then (cArgs caps.toList).map (.mkfn f) else none
  | .makeSlice t l c => (cElem P t).bind fun e => (v1s e.2.2.cells.toList).bind fun z => if allTree z then (cArg l).bind fun l => (cArg c).map fun c => .make nm e.1 e.2.1.size e.2.1.bytes z l c else none
  | .fieldAddr t x i => match P.underlying t with
    | some (.struct fields) => (fields[i]?).bind fun f => (sizeB P f.type).bind fun n => if n = 0 then none else (cArg x).map (.fieldA f.offset)
    | _ => none
  | .indexAddr t x i => match P.underlying t with
    | some (.slice e) => (sizeB P e).bind fun n => (cArg x).bind fun x => (cArg i).map fun i => .idxA n x i
    | some (.array len e) => (sizeB P e).bind fun n => (cArg x).bind fun x => (cArg i).map fun i => .idxArr len n x i
    | _ => none
  | .extract x i => (cArg x).map (.extract · i)
  | .call c => cCall P nm c
  | _ => none

theorem cElem_spec {P : Program} {t : TypeId} {x : TypeId × TypeInfo × Value} (h : cElem P t = some x) :
    P.underlying t = some (.slice x.1) ∧ P.info? x.1 = some x.2.1 ∧ x.2.1.zero = some x.2.2 ∧ x.2.2.cells.size = x.2.1.size ∧ 0 < x.2.1.size := by
  unfold cElem at h
  split at h
  · rename_i e he
    simp only [Option.bind_eq_some_iff] at h
    obtain ⟨i, hi, z, hz, h⟩ := h
    split at h
    · rename_i hc
      injection h with h
      subst h
      exact ⟨he, hi, hz, hc.1, hc.2⟩
    · cases h
  · cases h

theorem sizeB_of {P : Program} {t : TypeId} {i : TypeInfo} (h : P.info? t = some i) : sizeB P t = some i.size := by simp [sizeB, h]

section
variable {P : Program} {o : Oper} {a : Act} {w w0 : World} {I : Ini} {Zc : Nat → Prop} {N : Nat} {m : Map} {S : St}

set_option maxHeartbeats 1000000 in
theorem op_goes {nm : Nat} {mo : MOp} {E : Eff} (s : Sim w0 I Zc N m S a w) (hc : cOp P nm o = some mo) (he : evOp S mo = some E) : Goes P o a w w0 Zc m S E := by
  unfold cOp at hc
  split at hc
  · rename_i x ho
    simp only [Option.map_eq_some_iff] at hc
    obtain ⟨y, hy, rfl⟩ := hc
    injection he with he; subst he
    exact go_mv s (.inl ho) hy
  · rename_i x ho
    simp only [Option.map_eq_some_iff] at hc
    obtain ⟨y, hy, rfl⟩ := hc
    injection he with he; subst he
    exact go_mv s (.inr ho) hy
  · rename_i c x y ho
    simp only [Option.bind_eq_some_iff, Option.map_eq_some_iff] at hc
    obtain ⟨c', hc', x', hx', y', hy', rfl⟩ := hc
    simp only [evOp] at he
    split at he
    · rename_i t ht
      injection he with he; subst he
      exact go_pick s ho hc' hx' hy' ht
    · cases he
  · rename_i e ho
    simp only [Option.map_eq_some_iff] at hc
    obtain ⟨z, hz, rfl⟩ := hc
    injection he with he; subst he
    exact go_alloc s ho hz
  · rename_i e x ho
    simp only [Option.map_eq_some_iff] at hc
    obtain ⟨y, hy, rfl⟩ := hc
    simp only [evOp] at he
    split at he
    · rename_i vs hvs
      injection he with he; subst he
      exact go_box s ho hy hvs
    · cases he
  · rename_i t parts ho
    split at hc
    · rename_i fields hu
      simp only [Option.bind_eq_some_iff, Option.map_eq_some_iff] at hc
      obtain ⟨z, hz, pl, hpl, ps, hps, rfl⟩ := hc
      simp only [evOp] at he
      split at he
      · rename_i vs hvs
        injection he with he; subst he
        exact go_build s ho hz hu hpl hps hvs
      · cases he
    · cases hc
  · rename_i t len parts ho
    simp only [Option.bind_eq_some_iff] at hc
    obtain ⟨e, hel, hc⟩ := hc
    obtain ⟨h1, h2, h3, h4, h5⟩ := cElem_spec hel
    split at hc
    · rename_i hmax
      simp only [Option.bind_eq_some_iff, Option.map_eq_some_iff] at hc
      obtain ⟨z, hz, ps, hps, rfl⟩ := hc
      simp only [evOp] at he
      split at he
      · rename_i vs hvs
        split at he
        · rename_i ts hts
          have := go_mkrow s (nm := nm) ho h1 h2 rfl h5 h3 h4 hmax hz hps hvs hts
          split at he
          · rename_i hl
            rw [if_pos hl] at this
            injection he with he; subst he
            exact this
          · rename_i hl
            rw [if_neg hl] at this
            injection he with he; subst he
            exact this
        · cases he
      · cases he
    · cases hc
  · rename_i t x ho
    simp only [Option.bind_eq_some_iff] at hc
    obtain ⟨b, hb, hc⟩ := hc
    cases b with
    | true =>
      simp only [if_true, Option.bind_eq_some_iff, Option.map_eq_some_iff] at hc
      obtain ⟨n, hn, y, hy, rfl⟩ := hc
      simp only [evOp] at he
      split at he
      · rename_i vs hvs
        injection he with he; subst he
        exact go_load_agg s ho hy hb hn hvs
      · cases he
    | false =>
      simp only [Bool.false_eq_true, if_false, Option.map_eq_some_iff] at hc
      obtain ⟨y, hy, rfl⟩ := hc
      simp only [evOp] at he
      split at he
      · rename_i vs hvs
        simp only [Bool.false_eq_true, if_false] at he
        split at he
        · injection he with he; subst he
          exact go_load_one s ho hy hb hvs
        · cases he
      · cases he
  · rename_i t x y ho
    simp only [Option.bind_eq_some_iff, Option.map_eq_some_iff] at hc
    obtain ⟨n, hn, x', hx', y', hy', rfl⟩ := hc
    simp only [evOp] at he
    split at he
    · rename_i p off vs hp hvs
      split at he
      · rename_i b hb
        split at he
        · rename_i hcond
          split at he
          · rename_i hrow
            split at he
            · rename_i ts hts
              injection he with he; subst he
              exact go_store s ho hx' hy' hn hp hvs hb hcond.1 hcond.2.1 hcond.2.2 (by rw [if_pos hrow]; exact hts)
            · cases he
          · rename_i hrow
            injection he with he; subst he
            exact go_store s ho hx' hy' hn hp hvs hb hcond.1 hcond.2.1 hcond.2.2 (by rw [if_neg hrow])
        · cases he
      · cases he
    · cases he
  · rename_i x ho
    simp only [Option.map_eq_some_iff] at hc
    obtain ⟨y, hy, rfl⟩ := hc
    simp only [evOp] at he
    split at he
    · rename_i hv
      injection he with he; subst he
      exact go_nilck s ho hy hv (.inl ⟨_, _, rfl⟩)
    · rename_i hv
      injection he with he; subst he
      exact go_nilck s ho hy hv (.inr (.inl ⟨_, rfl⟩))
    · rename_i hv
      injection he with he; subst he
      exact go_nilck s ho hy hv (.inr (.inr ⟨_, _, rfl⟩))
    · cases he
  · split at hc
    · simp only [Option.map_eq_some_iff] at hc
      obtain ⟨y, hy, rfl⟩ := hc
      cases he
    · cases hc
  · split at hc
    · simp only [Option.map_eq_some_iff] at hc
      obtain ⟨y, hy, rfl⟩ := hc
      cases he
    · cases hc
  · rename_i op t x y t' _ _ ho
    simp only [Option.bind_eq_some_iff] at hc
    obtain ⟨x', hx', y', hy', hc⟩ := hc
    split at hc
    · rename_i hu
      have fin : ∀ (neg : Bool), op = (if neg then .neq else .eql) → evOp S (.eqS neg 0 x' y') = some E → Goes P o a w w0 Zc m S E := by
        intro neg hop he
        simp only [evOp] at he
        split at he
        · split at he
          · split at he
            · rename_i hk
              exact absurd rfl hk.2.2
            · cases he
          · cases he
        · rename_i p q h1 h2
          rw [if_pos trivial] at he
          injection he with he; subst he
          have := go_eqB s (by cases neg <;> simp [hop]) ho hx' hy' hu h1 h2
          cases neg <;> simpa [hop] using this
        · cases he
      split at hc
      · injection hc with hc; subst hc
        exact fin false rfl he
      · injection hc with hc; subst hc
        exact fin true rfl he
      · cases hc
    · rename_i fields hu
      split at hc
      · rename_i hcond
        have fin : ∀ (neg : Bool), op = (if neg then .neq else .eql) → evOp S (.eqS neg fields.size x' y') = some E → Goes P o a w w0 Zc m S E := by
          intro neg hop he
          simp only [evOp] at he
          split at he
          · rename_i xs ys h1 h2
            split at he
            · rename_i p q hp hq
              split at he
              · rename_i hk
                injection he with he; subst he
                have := go_eqS s (by cases neg <;> simp [hop]) ho hx' hy' hu hcond.1 hcond.2.1 hcond.2.2.1 hk.1 h1 h2 hp hq hk.2.1
                cases neg <;> simpa [hop] using this
              · cases he
            · cases he
          · rw [if_neg hcond.2.2.2] at he
            cases he
          · cases he
        split at hc
        · injection hc with hc; subst hc
          exact fin false rfl he
        · injection hc with hc; subst hc
          exact fin true rfl he
        · cases hc
      · cases hc
    · injection hc with hc; subst hc
      simp only [evOp] at he
      split at he
      · rename_i k p k' q h1 h2
        split at he
        · rename_i v hv
          injection he with he; subst he
          exact go_bin s ho hx' hy' h1 h2 hv
        · cases he
      · cases he
  · rename_i t x ho
    simp only [Option.map_eq_some_iff] at hc
    obtain ⟨y, hy, rfl⟩ := hc
    simp only [evOp] at he
    split at he
    · rename_i hv
      injection he with he; subst he
      exact go_not s ho hy hv
    · cases he
  · rename_i t t' x ho
    split at hc
    · rename_i k h1 h2
      simp only [Option.map_eq_some_iff] at hc
      obtain ⟨y, hy, rfl⟩ := hc
      simp only [evOp] at he
      split at he
      · rename_i hv
        injection he with he; subst he
        exact go_conv s ho hy (by rw [h1]; rfl) h2 hv
      · cases he
    · cases hc
  · rename_i f first caps ho
    split at hc
    · rename_i hf
      simp only [Option.map_eq_some_iff] at hc
      obtain ⟨l, hl, rfl⟩ := hc
      have hf : first = #[] := Array.eq_empty_of_size_eq_zero hf
      subst hf
      simp only [evOp] at he
      split at he
      · rename_i ns hns
        injection he with he; subst he
        exact go_mkfn s ho hl hns
      · cases he
    · cases hc
  · rename_i t l c ho
    simp only [Option.bind_eq_some_iff] at hc
    obtain ⟨e, hel, z, hz, hc⟩ := hc
    obtain ⟨h1, h2, h3, h4, h5⟩ := cElem_spec hel
    split at hc
    · rename_i hall
      simp only [Option.bind_eq_some_iff, Option.map_eq_some_iff] at hc
      obtain ⟨l', hl', c', hc', rfl⟩ := hc
      simp only [evOp] at he
      split at he
      · rename_i k p k' q e1 e2
        split at he
        · rename_i hcond
          injection he with he; subst he
          obtain ⟨rfl, h0, hb, hm⟩ := hcond
          have hp : (p.toNat : Int) = p := Int.toNat_of_nonneg h0
          refine go_make s ho hl' hc' h1 h2 rfl rfl h5 h3 h4 hz (fun v hv => ?_) (by rw [hp]; exact e1) (by rw [hp]; exact e2) hb (by omega)
          have := List.all_eq_true.1 hall v hv
          split at this
          · exact ⟨_, rfl⟩
          · cases this
        · cases he
      · cases he
    · cases hc
  · rename_i t x i ho
    split at hc
    · rename_i fields hu
      simp only [Option.bind_eq_some_iff] at hc
      obtain ⟨f, hf, n, hn, hc⟩ := hc
      split at hc
      · cases hc
      · rename_i hn0
        simp only [Option.map_eq_some_iff] at hc
        obtain ⟨y, hy, rfl⟩ := hc
        simp only [evOp] at he
        split at he
        · rename_i hv
          injection he with he; subst he
          exact go_fieldA s ho hy hu hf hn hn0 hv (.inl ⟨_, _, rfl, rfl⟩)
        · rename_i hv
          injection he with he; subst he
          exact go_fieldA s ho hy hu hf hn hn0 hv (.inr ⟨_, rfl, rfl⟩)
        · cases he
    · cases hc
  · rename_i t x i ho
    split at hc
    · rename_i e hu
      simp only [Option.bind_eq_some_iff, Option.map_eq_some_iff] at hc
      obtain ⟨n, hn, x', hx', i', hi', rfl⟩ := hc
      simp only [evOp] at he
      split at he
      · rename_i k j h2
        split at he
        · rename_i n' cs h1
          split at he
          · rename_i hcond
            injection he with he; subst he
            exact go_idx_pro s ho hx' hi' hu hn h1 h2 hcond.1 hcond.2.1 hcond.2.2
          · cases he
        · rename_i p h1
          split at he
          · rename_i y hy
            split at he
            · rename_i hcond
              injection he with he; subst he
              exact go_idx_row s ho hx' hi' hu hn h1 hy h2 hcond.1 hcond.2
            · cases he
          · cases he
        · cases he
      · cases he
    · rename_i len e hu
      simp only [Option.bind_eq_some_iff, Option.map_eq_some_iff] at hc
      obtain ⟨n, hn, x', hx', i', hi', rfl⟩ := hc
      simp only [evOp] at he
      split at he
      · rename_i k j h2
        split at he
        · rename_i hcond
          split at he
          · rename_i p off h1
            injection he with he; subst he
            exact go_idxArr s ho hx' hi' hu hn h1 h2 hcond.1 hcond.2 (.inl ⟨_, _, rfl, rfl⟩)
          · rename_i cs h1
            injection he with he; subst he
            exact go_idxArr s ho hx' hi' hu hn h1 h2 hcond.1 hcond.2 (.inr ⟨_, rfl, rfl⟩)
          · cases he
        · cases he
      · cases he
    · cases hc
  · rename_i x i ho
    simp only [Option.map_eq_some_iff] at hc
    obtain ⟨y, hy, rfl⟩ := hc
    simp only [evOp] at he
    split at he
    · rename_i ss hss
      split at he
      · rename_i vs hvs
        injection he with he; subst he
        exact go_extract s ho hy hss (.inl ⟨_, hvs, rfl⟩)
      · rename_i v hv
        injection he with he; subst he
        exact go_extract s ho hy hss (.inr ⟨_, hv, rfl⟩)
      · cases he
    · cases he
  · rename_i c ho
    obtain ⟨callee, args, argTypes⟩ := c
    unfold cCall at hc
    split at hc
    · rename_i b hb
      simp only at hb hc
      subst hb
      unfold cBuiltin at hc
      split at hc
      · rename_i t x ht hx
        have hargs : args = #[x] := Array.toList_inj.1 hx
        have htys : argTypes = #[t] := Array.toList_inj.1 ht
        subst hargs htys
        split at hc
        · rename_i e hu
          simp only [Option.map_eq_some_iff] at hc
          obtain ⟨y, hy, rfl⟩ := hc
          simp only [evOp] at he
          split at he
          · rename_i n cs hcs
            injection he with he; subst he
            exact go_len s ho hy hu hcs
          · cases he
        · cases hc
      · rename_i t t' x y ht hx
        have hargs : args = #[x, y] := Array.toList_inj.1 hx
        have htys : argTypes = #[t, t'] := Array.toList_inj.1 ht
        subst hargs htys
        split at hc
        · rename_i htt
          subst htt
          simp only [Option.bind_eq_some_iff, Option.map_eq_some_iff] at hc
          obtain ⟨e, hel, x', hx', y', hy', rfl⟩ := hc
          obtain ⟨h1, h2, h3, h4, h5⟩ := cElem_spec hel
          simp only [evOp] at he
          split at he
          · rename_i k news hys
            split at he
            · rename_i ts hts
              split at he
              · rename_i hxe
                split at he
                · rename_i hcond
                  have := go_append_nil s (nm := nm) ho hx' hy' h1 h2 h5 h3 h4 hys hts hxe hcond.1 hcond.2.1 hcond.2.2
                  split at he
                  · rename_i hk
                    rw [if_pos hk] at this
                    injection he with he; subst he
                    exact this
                  · rename_i hk
                    rw [if_neg hk] at this
                    injection he with he; subst he
                    exact this
                · cases he
              · rename_i p hxe
                split at he
                · rename_i b hb
                  split at he
                  · rename_i hcond
                    obtain ⟨c1, c2, c3, c4, c5, c6, c7⟩ := hcond
                    injection he with he; subst he
                    exact go_append_row s ho hx' hy' h1 h2 h5 h3 h4 hys hts hxe hb c1 c2 c3 c4 c5 c6 c7
                  · cases he
                · cases he
              · cases he
            · cases he
          · cases he
        · cases hc
      · rename_i t t' x y ht hx
        have hargs : args = #[x, y] := Array.toList_inj.1 hx
        have htys : argTypes = #[t, t'] := Array.toList_inj.1 ht
        subst hargs htys
        simp only [Option.bind_eq_some_iff, Option.map_eq_some_iff] at hc
        obtain ⟨x', hx', y', hy', rfl⟩ := hc
        simp only [evOp] at he
        split at he
        · rename_i k p k' q h1 h2
          split at he
          · rename_i hk
            subst hk
            injection he with he; subst he
            refine go_minmax (b := true) s ho hx' hy' h1 h2 (fun ty W => ?_)
            simp only [if_true, run_max_int2]
            congr 2
            omega
          · cases he
        · cases he
      · rename_i t t' x y ht hx
        have hargs : args = #[x, y] := Array.toList_inj.1 hx
        have htys : argTypes = #[t, t'] := Array.toList_inj.1 ht
        subst hargs htys
        simp only [Option.bind_eq_some_iff, Option.map_eq_some_iff] at hc
        obtain ⟨x', hx', y', hy', rfl⟩ := hc
        simp only [evOp] at he
        split at he
        · rename_i k p k' q h1 h2
          split at he
          · rename_i hk
            subst hk
            injection he with he; subst he
            refine go_minmax (b := false) s ho hx' hy' h1 h2 (fun ty W => ?_)
            simp only [Bool.false_eq_true, if_false, run_min_int2]
            congr 2
            omega
          · cases he
        · cases he
      · cases hc
    · simp only [Option.bind_eq_some_iff, Option.map_eq_some_iff] at hc
      obtain ⟨f', hf', l, hl, rfl⟩ := hc
      cases he
    · cases hc
  · cases hc
end
end Go.Proofs.Ythapbbpdcjmmfaa.Abs
