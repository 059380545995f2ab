/-
  Go's operations, compiled, do what the small code says: numbers, addresses, make and append. No condition beyond those that each statement names.
-/
import Derived.Test.YthapbbpdcjmmfaaAbs5
namespace Go.Proofs.Ythapbbpdcjmmfaa.Abs
open Go.RowKit
set_option linter.unusedVariables false
set_option linter.unusedSimpArgs false

theorem add_ptr (b off n : Nat) : (⟨b, off, none⟩ : Addr).add n = ⟨b, off + n, none⟩ := by unfold Addr.add; split <;> simp_all
theorem add_add (a : Addr) (d j : Nat) : (a.add d).add j = a.add (d + j) := by
  unfold Addr.add
  by_cases h1 : d = 0 <;> by_cases h2 : j = 0 <;> simp [h1, h2, Nat.add_assoc]

section ops
variable {P : Program} {o : Oper} {a : Act} {w w0 : World} {I : Ini} {Zc : Nat → Prop} {N : Nat} {m : Map} {S : St}

theorem pro_drop {w : World} {Z : Nat → Prop} {m : Map} {ob : Nm → Option Ob} {cs : List C} {ad : Addr} (d : Nat) (hz : cs ≠ [] → ¬ Z ad.block)
    (h : ∀ (j : Nat) c, cs[j]? = some c → ∃ u, w.cell? (ad.add j) = some u ∧ CR w Z c u) : V1R w Z m ob (.pro (cs.drop d)) (.pointer (some (ad.add d))) := by
  refine ⟨_, rfl, fun hne => by rw [add_block]; exact hz (by rintro rfl; simp at hne), fun j c hj => ?_⟩
  rw [List.getElem?_drop] at hj
  rw [add_add]
  exact h _ c hj

theorem go_nilck {x : Operand} {y : Arg} {v : V1} (s : Sim w0 I Zc N m S a w) (ho : o.op = .nilCheck x) (hy : cArg x = some y) (hv : y.ev S = .one v)
    (hk : (∃ p off, v = .ptr p off) ∨ (∃ cs, v = .pro cs) ∨ ∃ f l, v = .fn f l) : Goes P o a w w0 Zc m S (S.val (.one v)) := by
  have h := arg_spec s hy
  rw [hv] at h
  refine goes_val s (u := a.eval x) ?_ h
  rcases hk with ⟨p, off, rfl⟩ | ⟨cs, rfl⟩ | ⟨f, l, rfl⟩
  · obtain ⟨_, h⟩ := h
    simp [execOp, ho, h]
  · obtain ⟨ad, h, _⟩ := h
    simp [execOp, ho, h]
  · obtain ⟨_, h⟩ := h
    simp [execOp, ho, h]

theorem go_bin {op : BinOp} {t t' : TypeId} {x y : Operand} {x' y' : Arg} {k k' : IntKind} {p q : Int} {v : V1} (s : Sim w0 I Zc N m S a w) (ho : o.op = .binOp op t x y t') (hx : cArg x = some x') (hy : cArg y = some y')
    (h1 : x'.ev S = .one (.t (.int k p))) (h2 : y'.ev S = .one (.t (.int k' q))) (hv : binInt2 op k p k' q = some v) : Goes P o a w w0 Zc m S (S.val (.one v)) := by
  have e1 := arg_spec s hx
  rw [h1] at e1
  have e2 := arg_spec s hy
  rw [h2] at e2
  have e1 := one_int e1
  have e2 := one_int e2
  by_cases hs : op = .shr ∨ op = .shl
  · rcases hs with rfl | rfl
    all_goals
      simp only [binInt2] at hv
      split at hv
      · cases hv
      · rename_i hq
        injection hv with hv; subst hv
        refine goes_val s (u := .int k _) ?_ (CR.int k _)
        simp [execOp, ho, e1, e2, eqGuard, binOp, Op.shift, hq]
  · replace hv : (if k = k' then binInt op k p q else none) = some v := by
      cases op <;> first | exact hv | exact absurd (.inl rfl) hs | exact absurd (.inr rfl) hs
    by_cases hk : k = k'
    case neg => rw [if_neg hk] at hv; cases hv
    rw [if_pos hk] at hv
    subst hk
    cases op <;> simp only [binInt] at hv <;> first | cases hv | (injection hv with hv; subst hv) | (split at hv <;> first | cases hv | (injection hv with hv; subst hv))
    all_goals
      first
      | (refine goes_val s (u := .int k _) ?_ (CR.int k _); simp [execOp, ho, e1, e2, eqGuard, binOp, Op.intArith, Op.intCmp, Op.intBits]; done)
      | (refine goes_val s (u := .bool _) ?_ (CR.bool _); simp [execOp, ho, e1, e2, eqGuard, binOp, Op.intArith, Op.intCmp]; done)
      | (rename_i hq; refine goes_val s (u := .int k _) ?_ (CR.int k _); simp [execOp, ho, e1, e2, eqGuard, binOp, Op.intDiv, hq]; done)

theorem go_not {t : TypeId} {x : Operand} {y : Arg} {b : Bool} (s : Sim w0 I Zc N m S a w) (ho : o.op = .unOp .not t x) (hy : cArg x = some y) (hv : y.ev S = .one (.t (.bool b))) :
    Goes P o a w w0 Zc m S (S.val (.one (.t (.bool (!b))))) := by
  have h := arg_spec s hy
  rw [hv] at h
  refine goes_val s (u := .bool (!b)) ?_ (CR.bool _)
  simp [execOp, ho, one_bool h, Op.unary]

theorem go_conv {t t' : TypeId} {x : Operand} {y : Arg} {k k' : IntKind} {n : Int} (s : Sim w0 I Zc N m S a w) (ho : o.op = .convert t t' x) (hy : cArg x = some y) (ht : (P.underlying t).isSome = true) (ht' : P.underlying t' = some (.int k))
    (hv : y.ev S = .one (.t (.int k' n))) : Goes P o a w w0 Zc m S (S.val (.one (.t (.int k (k.wrap n))))) := by
  have h := arg_spec s hy
  rw [hv] at h
  obtain ⟨d, hd⟩ := Option.isSome_iff_exists.1 ht
  refine goes_val s (u := .int k (k.wrap n)) ?_ (CR.int _ _)
  simp [execOp, ho, one_int h, convert, run_underlying hd, run_underlying ht', Conv.intToInt]

theorem go_fieldA {t : TypeId} {x : Operand} {y : Arg} {i sz : Nat} {fields : Array Field} {f : Field} {v v' : V1} (s : Sim w0 I Zc N m S a w) (ho : o.op = .fieldAddr t x i) (hy : cArg x = some y)
    (ht : P.underlying t = some (.struct fields)) (hf : fields[i]? = some f) (hs : sizeB P f.type = some sz) (hpos : sz ≠ 0) (hv : y.ev S = .one v)
    (hk : (∃ p off, v = .ptr p off ∧ v' = .ptr p (off + f.offset)) ∨ ∃ cs, v = .pro cs ∧ v' = .pro (cs.drop f.offset)) : Goes P o a w w0 Zc m S (S.val (.one v')) := by
  have h := arg_spec s hy
  rw [hv] at h
  have run : ∀ ad : Addr, a.eval x = .pointer (some ad) → (execOp a.eval o).run P w = .ok (.value (.pointer (some (ad.add f.offset)))) w := by
    intro ad hx
    simp only [execOp, ho, Instr.fieldAt, hx, Sem.run_bind, run_underlying ht, Result.andThen_ok, hf, Instr.sureAddr, Sem.run_pure, fieldPlace, size_spec hs, if_neg hpos]
  rcases hk with ⟨p, off, rfl, rfl⟩ | ⟨cs, rfl, rfl⟩
  · obtain ⟨hne, h⟩ := h
    exact goes_val s (run _ h) ⟨hne, by rw [add_ptr]⟩
  · obtain ⟨ad, h, hz, hc⟩ := h
    exact goes_val s (run _ h) (pro_drop (m := m) (ob := S.ob) _ hz hc)

theorem go_idx_pro {t e : TypeId} {x i : Operand} {x' i' : Arg} {esz n : Nat} {k : IntKind} {j : Int} {cs : List C} (s : Sim w0 I Zc N m S a w) (ho : o.op = .indexAddr t x i) (hx : cArg x = some x') (hi : cArg i = some i')
    (ht : P.underlying t = some (.slice e)) (hs : sizeB P e = some esz) (h1 : x'.ev S = .one (.t (.sl n cs))) (h2 : i'.ev S = .one (.t (.int k j))) (h0 : 0 ≤ j) (hn : j < n) (hc : j.toNat * esz < cs.length) :
    Goes P o a w w0 Zc m S (S.val (.one (.pro (cs.drop (j.toNat * esz))))) := by
  have e1 := arg_spec s hx
  rw [h1] at e1
  have e2 := arg_spec s hi
  rw [h2] at e2
  have e2 := one_int e2
  generalize hv : a.eval x = v at e1
  cases (show CR w _ (.sl n cs) v from e1)
  rename_i cap A us hcap ha hcc
  obtain ⟨ad, rfl, hz, hr⟩ := ha (by omega)
  refine goes_val s (u := .pointer (some (ad.add (j.toNat * esz)))) ?_ (pro_drop (m := m) (ob := S.ob) _ (fun _ => hz) (fun q c hq => ⟨us q, hr q (List.getElem?_eq_some_iff.1 hq).1, hcc q c hq⟩))
  simp only [execOp, ho, Instr.indexAt, hv, e2, asIntOf, Sem.run_bind, Sem.run_pure, Result.andThen_ok, run_underlying ht, size_spec hs, Sem.run_ite, if_pos (show 0 ≤ j ∧ j < (n : Int) from ⟨h0, hn⟩)]

theorem go_idx_row {t e : TypeId} {x i : Operand} {x' i' : Arg} {esz : Nat} {k : IntKind} {j : Int} {p : Nm} {y : Ob} (s : Sim w0 I Zc N m S a w) (ho : o.op = .indexAddr t x i) (hx : cArg x = some x') (hi : cArg i = some i')
    (ht : P.underlying t = some (.slice e)) (hs : sizeB P e = some esz) (h1 : x'.ev S = .one (.row p)) (hp : S.live p = some y) (h2 : i'.ev S = .one (.t (.int k j))) (h0 : 0 ≤ j) (hn : j < y.n) :
    Goes P o a w w0 Zc m S (S.val (.one (.ptr p (j.toNat * esz)))) := by
  have e1 := arg_spec s hx
  rw [h1] at e1
  have e2 := arg_spec s hi
  rw [h2] at e2
  have e2 := one_int e2
  obtain ⟨y', hy', _, hv⟩ := e1
  rw [(live_spec hp).1] at hy'
  injection hy' with hy'
  subst hy'
  refine goes_val s (u := .pointer (some ((⟨m.at_ p, 0, none⟩ : Addr).add (j.toNat * esz)))) ?_ ⟨by rw [(live_spec hp).1]; simp, by rw [add_ptr, Nat.zero_add]⟩
  simp only [execOp, ho, Instr.indexAt, hv, e2, asIntOf, Sem.run_bind, Sem.run_pure, Result.andThen_ok, run_underlying ht, size_spec hs, Sem.run_ite, if_pos (show 0 ≤ j ∧ j < (y.n : Int) from ⟨h0, hn⟩)]

theorem go_idxArr {t e : TypeId} {x i : Operand} {x' i' : Arg} {len esz : Nat} {k : IntKind} {j : Int} {v v' : V1} (s : Sim w0 I Zc N m S a w) (ho : o.op = .indexAddr t x i) (hx : cArg x = some x') (hi : cArg i = some i')
    (ht : P.underlying t = some (.array len e)) (hs : sizeB P e = some esz) (h1 : x'.ev S = .one v) (h2 : i'.ev S = .one (.t (.int k j))) (h0 : 0 ≤ j) (hn : j < len)
    (hk : (∃ p off, v = .ptr p off ∧ v' = .ptr p (off + j.toNat * esz)) ∨ ∃ cs, v = .pro cs ∧ v' = .pro (cs.drop (j.toNat * esz))) : Goes P o a w w0 Zc m S (S.val (.one v')) := by
  have h := arg_spec s hx
  rw [h1] at h
  have e2 := arg_spec s hi
  rw [h2] at e2
  have e2 := one_int e2
  have run : ∀ ad : Addr, a.eval x = .pointer (some ad) → (execOp a.eval o).run P w = .ok (.value (.pointer (some (ad.add (j.toNat * esz))))) w := by
    intro ad hx
    simp only [execOp, ho, Instr.indexAt, hx, e2, asIntOf, Instr.sureAddr, Sem.run_bind, Sem.run_pure, Result.andThen_ok, run_underlying ht, size_spec hs, Sem.run_ite, if_pos (show 0 ≤ j ∧ j < (len : Int) from ⟨h0, hn⟩)]
  rcases hk with ⟨p, off, rfl, rfl⟩ | ⟨cs, rfl, rfl⟩
  · obtain ⟨hne, h⟩ := h
    exact goes_val s (run _ h) ⟨hne, by rw [add_ptr]⟩
  · obtain ⟨ad, h, hz, hc⟩ := h
    exact goes_val s (run _ h) (pro_drop (m := m) (ob := S.ob) _ hz hc)

theorem go_extract {x : Operand} {y : Arg} {i : Nat} {ss : List (Bool × List V1)} {v : AV} (s : Sim w0 I Zc N m S a w) (ho : o.op = .extract x i) (hy : cArg x = some y) (hv : y.ev S = .tup ss)
    (hk : (∃ vs, ss[i]? = some (true, vs) ∧ v = .agg vs) ∨ ∃ v1, ss[i]? = some (false, [v1]) ∧ v = .one v1) : Goes P o a w w0 Zc m S (S.val v) := by
  have h := arg_spec s hy
  rw [hv] at h
  obtain ⟨us, hx, hl, hs⟩ := h
  have key : ∀ q, ss[i]? = some q → ∃ u, us[i]? = some u ∧ SVR w (vol m S.ob Zc) m S.ob q u := by
    intro q hq
    have hi : i < us.size := by rw [← hl]; exact (List.getElem?_eq_some_iff.1 hq).1
    exact ⟨us[i], Array.getElem?_eq_getElem hi, hs i q _ hq (Array.getElem?_eq_getElem hi)⟩
  rcases hk with ⟨vs, hq, rfl⟩ | ⟨v1, hq, rfl⟩
  · obtain ⟨u, hu, h⟩ := key _ hq
    exact goes_val s (u := u) (by simp [execOp, ho, hx, Instr.extract, hu]) h
  · obtain ⟨u, hu, h⟩ := key _ hq
    obtain ⟨x1, he, h⟩ := h
    injection he with he _
    subst he
    exact goes_val s (u := u) (by simp [execOp, ho, hx, Instr.extract, hu]) h

/-- A slice's cells. -/
theorem slice_spec {w : World} (s : Sim w0 I Zc N m S a w) {x : AV} {v : Value} {n : Nat} {cs : List V1} (h : AVR w (vol m S.ob Zc) m S.ob x v) (hs : sliceOf S x = some (n, cs)) :
    ∃ A c us, v = .slice A n c ∧ n ≤ c ∧ L1R w (vol m S.ob Zc) m S.ob cs us ∧ (us ≠ [] → A ≠ none) ∧ ∀ ad, A = some ad → ∀ (j : Nat) u, us[j]? = some u → w.cell? (ad.add j) = some u := by
  unfold sliceOf at hs
  split at hs
  · rename_i n' cs'
    injection hs with hs
    injection hs with h1 h2
    subst h1 h2
    cases (show CR w _ (.sl n' cs') v from h)
    rename_i cap A us hcap ha hcc
    refine ⟨A, cap, (List.range cs'.length).map us, rfl, hcap, ⟨by simp, fun j q u hq hu => ?_⟩, fun hne e => ?_, fun ad e j u hu => ?_⟩
    · simp only [List.getElem?_map, Option.map_eq_some_iff] at hq hu
      obtain ⟨c, hc, rfl⟩ := hq
      obtain ⟨i, hi, rfl⟩ := hu
      obtain ⟨_, rfl⟩ := List.getElem?_eq_some_iff.1 hi
      simp
      exact hcc j c hc
    · obtain ⟨ad, e2, _⟩ := ha (by
        rcases Nat.eq_zero_or_pos cs'.length with h0 | h0
        · rw [h0] at hne; simp at hne
        · exact h0)
      rw [e] at e2
      cases e2
    · simp only [List.getElem?_map, Option.map_eq_some_iff] at hu
      obtain ⟨i, hi, rfl⟩ := hu
      obtain ⟨hlt, rfl⟩ := List.getElem?_eq_some_iff.1 hi
      simp at hlt ⊢
      obtain ⟨ad', e2, _, hr⟩ := ha (by omega)
      rw [e] at e2
      injection e2 with e2
      subst e2
      exact hr j hlt
  · injection hs with hs
    injection hs with h1 h2
    subst h1 h2
    obtain ⟨A, rfl⟩ : ∃ A, v = .slice A 0 0 := h
    exact ⟨A, 0, [], rfl, Nat.le_refl _, ⟨rfl, fun j q u hq => by simp at hq⟩, fun h => absurd rfl h, fun ad e j u hu => by simp at hu⟩
  · rename_i p
    split at hs
    · rename_i b hb
      split at hs
      · rename_i hrow
        injection hs with hs
        injection hs with h1 h2
        subst h1 h2
        obtain ⟨hob, hlive⟩ := live_spec hb
        obtain ⟨b', hb', _, rfl⟩ := h
        rw [hob] at hb'
        injection hb' with hb'
        subst hb'
        obtain ⟨hbase, arr, g1, g2, g3⟩ := s.heap.obs _ _ hob hlive
        rw [if_pos hrow] at g2
        have hfit : b.cells.length ≤ arr.size := by rw [g2.1, g2.2.2.2.1]; exact Nat.mul_le_mul_right _ g2.2.1
        refine ⟨_, _, arr.toList.take b.cells.length, rfl, g2.2.1, ⟨by simp; omega, fun j q u hq hu => ?_⟩, fun _ => by simp, fun ad e j u hu => ?_⟩
        · obtain ⟨u', h1, _, h3⟩ := g3 j q hq
          rw [List.getElem?_take] at hu
          split at hu
          · rw [Array.getElem?_toList, h1] at hu
            injection hu with hu
            subst hu
            exact h3
          · cases hu
        · injection e with e
          subst e
          rw [List.getElem?_take] at hu
          split at hu
          · rw [add_ptr, Nat.zero_add, cell_of_row w _ _ _ _ _ g1]
            rw [Array.getElem?_toList] at hu
            exact hu
          · cases hu
      · cases hs
    · cases hs
  · cases hs

theorem go_len {t e : TypeId} {x : Operand} {y : Arg} {n : Nat} {cs : List V1} (s : Sim w0 I Zc N m S a w) (ho : o.op = .call { callee := .builtin .len, args := #[x], argTypes := #[t] }) (hy : cArg x = some y)
    (ht : P.underlying t = some (.slice e)) (hv : sliceOf S (y.ev S) = some (n, cs)) : Goes P o a w w0 Zc m S (S.val (.one (.t (.int .i64 n)))) := by
  obtain ⟨A, c, us, hx, _⟩ := slice_spec s (arg_spec s hy) hv
  refine goes_val s (u := .int .i64 n) ?_ (CR.int _ _)
  simp [execOp, ho, resolve, invoke, builtin, hx, Builtin.len_, run_underlying ht, goInt]

theorem go_minmax {t t' : TypeId} {x y : Operand} {x' y' : Arg} {k : IntKind} {p q : Int} {b : Bool} (s : Sim w0 I Zc N m S a w) (ho : o.op = .call { callee := .builtin (if b then .max else .min), args := #[x, y], argTypes := #[t, t'] })
    (hx : cArg x = some x') (hy : cArg y = some y') (h1 : x'.ev S = .one (.t (.int k p))) (h2 : y'.ev S = .one (.t (.int k q)))
    (hrun : ∀ (ty : TypeId) (W : World), ((if b then Builtin.max_ else Builtin.min_) #[t, t'] ty #[.int k p, .int k q]).run P W = .ok (.int k (if b then max p q else min p q)) W) :
    Goes P o a w w0 Zc m S (S.val (.one (.t (.int k (if b then max p q else min p q))))) := by
  have e1 := arg_spec s hx
  rw [h1] at e1
  have e2 := arg_spec s hy
  rw [h2] at e2
  have e1 := one_int e1
  have e2 := one_int e2
  refine goes_val s (u := .int k (if b then max p q else min p q)) ?_ (CR.int _ _)
  have hr := hrun o.type w
  cases b <;> simp [execOp, ho, resolve, invoke, builtin, e1, e2] <;> simp at hr <;> simp [hr]

theorem go_make {t e nm esz n bytes : Nat} {l c : Operand} {l' c' : Arg} {z : List V1} {zv : Value} {i : TypeInfo} {k k' : IntKind} (s : Sim w0 I Zc N m S a w) (ho : o.op = .makeSlice t l c) (hl : cArg l = some l') (hc : cArg c = some c')
    (ht : P.underlying t = some (.slice e)) (hi : P.info? e = some i) (hes : i.size = esz) (hby : i.bytes = bytes) (hpos : 0 < esz) (hzv : i.zero = some zv) (hzs : zv.cells.size = esz) (hz : v1s zv.cells.toList = some z) (hzt : ∀ v ∈ z, ∃ c, v = .t c)
    (h1 : l'.ev S = .one (.t (.int k (n : Int)))) (h2 : c'.ev S = .one (.t (.int k' (n : Int)))) (hb : n * bytes ≤ 140737488355328) (hm : n ≤ 9223372036854775807) :
    Goes P o a w w0 Zc m S (S.new nm ⟨true, true, false, esz, n, e, (List.replicate n z).flatten⟩ (.one (.row (nm, S.cnt nm)))) := by
  subst hes hby
  have e1 := arg_spec s hl
  rw [h1] at e1
  have e2 := arg_spec s hc
  rw [h2] at e2
  have e1 := one_int e1
  have e2 := one_int e2
  obtain ⟨w', hrun, hown, hg⟩ := run_make_full (P := P) w w0.heap.size t e i zv i.size ht hi hzv rfl k k' n (by rw [Nat.mul_comm]; omega) (by simp only [maxLen]; omega) s.heap.size
  have hcz := v1s_spec (w := w) (Z := vol m S.ob Zc) (m := m) (ob := S.ob) hz
  have hzl : z.length = i.size := by rw [hcz.1, Array.length_toList, hzs]
  have hfl : ((List.replicate n z).flatten).length = n * i.size := by simp [hzl]
  rcases hown.2 with ⟨he, _⟩ | ⟨g, cap, cur, he, hbase, hh, hn1, hn2, hn3, hn4⟩
  · cases he
  injection he with he _ hcap
  injection he with he
  injection he with he
  subst he
  subst hcap
  have hcells : ∀ (j : Nat), j < n * i.size → cur[j]? = some zv.cells[j % zv.cells.size]! := by
    intro j hj
    have := congrArg (fun l : List Value => l[j]?) hn4
    simp only [List.getElem?_take, if_pos hj, madeCells] at this
    rw [← Array.getElem?_toList, this]
    simp [hj]
  have hb' : Below w.heap.size w w' := ⟨hg.os, hg.tape, hg.output, hg.size, fun q hq => hg.block q hq (by simp)⟩
  refine ⟨_, .slice (some ⟨w.heap.size, 0, none⟩) n n, w', m.set (nm, S.cnt nm) w.heap.size n, ?_, .inl rfl, hr_new s.heap nm ⟨true, true, false, i.size, n, e, _⟩ n hb' (fun _ => ⟨cur, hh, ?_, fun j v hv => ?_⟩), ext_new s.heap nm _ n (fun q hq => hb'.block q hq) hb'.size, ?_⟩
  · simp [execOp, ho, e1, e2, hrun]
  · simp only [if_true]
    refine ⟨hn3, Nat.le_refl _, by simp only [maxLen]; omega, hfl, hpos, fun v hv => ?_⟩
    simp only [List.mem_flatten, List.mem_replicate] at hv
    obtain ⟨l, ⟨_, rfl⟩, hv⟩ := hv
    exact hzt v hv
  · have hj : j < n * i.size := by rw [← hfl]; exact (List.getElem?_eq_some_iff.1 hv).1
    have hjm : j % i.size < i.size := Nat.mod_lt _ hpos
    refine ⟨_, hcells j hj, ?_⟩
    have hget : ∀ (n j : Nat), j < n * i.size → ((List.replicate n z).flatten)[j]? = z[j % i.size]? := by
      intro n
      induction n with
      | zero => intro j hj; omega
      | succ n ih =>
        intro j hj
        rw [List.replicate_succ, List.flatten_cons, List.getElem?_append]
        split
        · rw [Nat.mod_eq_of_lt (by omega)]
        · rw [ih _ (by rw [Nat.add_mul] at hj; omega), hzl]
          congr 1
          rw [← Nat.mod_eq_sub_mod (by omega)]
    have hv2 : z[j % i.size]? = some v := by rw [← hget n j hj]; exact hv
    have hlt : j % i.size < zv.cells.toList.length := by rw [Array.length_toList, hzs]; exact hjm
    have hr := hcz.2 _ v _ hv2 (List.getElem?_eq_getElem hlt)
    rw [hzs, getElem!_pos zv.cells _ (by rw [hzs]; exact hjm)]
    simpa using hr
  · exact ⟨_, by simp [St.new, upd_same]; rfl, rfl, by simp [Map.set, upd_same]⟩
end ops
end Go.Proofs.Ythapbbpdcjmmfaa.Abs
