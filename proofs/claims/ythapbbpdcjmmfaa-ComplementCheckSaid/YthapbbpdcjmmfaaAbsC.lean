/-
  A contract over trees serves at a call in any state. No condition beyond those that each statement names.
-/
import Derived.Test.YthapbbpdcjmmfaaAbsB
namespace Go.Proofs.Ythapbbpdcjmmfaa.Abs
open Go.RowKit
set_option linter.unusedVariables false
set_option linter.unusedSimpArgs false

def argTree (S : St) : AV → Option TV
  | .one v => (treeCell S v).map fun c => (false, [c])
  | .agg vs => (treeCells S vs).map fun cs => (true, cs)
  | _ => none

def argTrees (S : St) : List AV → Option (List TV)
  | [] => some []
  | x :: r => (argTree S x).bind fun y => (argTrees S r).map (y :: ·)

def TV.cs (x : TV) : List V1 := x.2.map .t

def TR.av : TR → AV
  | .sv x => x.av
  | .tup l => .tup (l.map fun x => (x.1, x.2.map .t))

def C.plain : C → Bool
  | .sl _ _ => false
  | _ => true

/-- No slice is in it. -/
def TR.plain : TR → Bool
  | .sv x => x.2.all C.plain
  | .tup l => l.all fun x => x.2.all C.plain

/-- The rows in it don't change any more. -/
def V1.still (S : St) : V1 → Bool
  | .row o => match S.live o with
    | some x => x.frz
    | none => false
  | _ => true

def AV.still (S : St) : AV → Bool
  | .one v => v.still S
  | .agg vs => vs.all (V1.still S)
  | _ => true

section
variable {P : Program} {a : Act} {w w' w0 : World} {Zc Z : Nat → Prop} {m : Map} {S : St}

theorem CR.any {c : C} {v : Value} (hp : c.plain = true) (h : CR w Z c v) (Z' : Nat → Prop) : CR w Z' c v := by
  cases h with
  | int k n => exact .int k n
  | bool b => exact .bool b
  | sl => cases hp

/-- A row that is still reads as a tree that no later step turns. -/
theorem treeCell_still (h : HR w0 Zc m S.ob S.cnt w) {x : V1} {c : C} {v : Value} (hx : treeCell S x = some c) (hs : x.still S = true) (hv : V1R w (vol m S.ob Zc) m S.ob x v) : CR w (vol m S.ob Zc) c v := by
  have h' : HR w0 (fun b => Zc b ∧ b < w0.heap.size) m S.ob S.cnt w := by
    refine ⟨h.below, fun b hb => hb.2, h.fresh, fun o y ho hl => ?_, h.inj⟩
    exact OR.ext ⟨⟨fun _ _ _ => rfl, fun b hb hz => by
      rcases hz with hz | hz
      · exact .inl hz.1
      · exact .inr hz, Nat.le_refl _⟩, fun _ _ => rfl, fun _ _ => rfl, fun o x h => ⟨x, h, rfl, rfl⟩⟩ (by rw [ho]; simp) rfl (h.obs o y ho hl)
  cases x with
  | t x => injection hx with hx; subst hx; exact hv
  | nil =>
    injection hx with hx; subst hx
    obtain ⟨A, rfl⟩ : ∃ A, v = .slice A 0 0 := hv
    exact .sl 0 0 [] A (fun _ => default) (Nat.le_refl _) (fun h => by simp at h) (fun j c h => by simp at h)
  | row o =>
    simp only [treeCell] at hx
    simp only [V1.still] at hs
    split at hx
    · rename_i y hy
      rw [hy] at hs
      simp only at hs
      split at hx
      · rename_i hrow
        simp only [Option.map_eq_some_iff] at hx
        obtain ⟨cs, hcs, rfl⟩ := hx
        obtain ⟨hob, hlive⟩ := live_spec hy
        obtain ⟨y', hy', _, rfl⟩ := hv
        rw [hob] at hy'
        injection hy' with hy'
        subst hy'
        obtain ⟨hbase, arr, h1, h2, h3⟩ := h.obs _ _ hob hlive
        rw [if_pos hrow] at h2
        have hc := untree_spec hcs
        have hcell : ∀ (j : Nat) c, cs[j]? = some c → ∃ u, arr[j]? = some u ∧ CR w (vol m S.ob Zc) c u := by
          intro j c hj
          obtain ⟨u, g1, _, g3⟩ := h3 j (.t c) (by rw [hc]; simp [hj])
          exact ⟨u, g1, g3⟩
        refine .sl y.n (m.cap o) cs (some ⟨m.at_ o, 0, none⟩) (fun j => arr[j]?.getD default) h2.2.1 (fun _ => ⟨_, rfl, fun hz => ?_, fun j hj => ?_⟩) (fun j c hj => ?_)
        · rcases hz with hz | ⟨o', y', ho', hl', hf', e⟩
          · have := h.zc _ hz
            simp only at this
            omega
          · have := h.inj o' y' o y ho' hl' hob hlive e
            subst this
            rw [hob] at ho'
            injection ho' with ho'
            subst ho'
            rw [hs] at hf'
            cases hf'
        · rw [add_ptr, Nat.zero_add, cell_of_row w _ _ _ _ _ h1]
          obtain ⟨u, g1, _⟩ := hcell j cs[j] (List.getElem?_eq_getElem hj)
          rw [g1]
          rfl
        · obtain ⟨u, g1, g2⟩ := hcell j c hj
          rw [g1]
          exact g2
      · cases hx
    · cases hx
  | ptr o off => cases hx
  | pro cs => cases hx
  | fn f l => cases hx

theorem treeCells_still (h : HR w0 Zc m S.ob S.cnt w) : ∀ {xs : List V1} {cs : List C} {us : List Value}, treeCells S xs = some cs → xs.all (V1.still S) = true → L1R w (vol m S.ob Zc) m S.ob xs us → TLR w (vol m S.ob Zc) cs us
  | [], cs, us, hx, _, hl => by
    injection hx with hx; subst hx
    exact ⟨hl.1, fun j c u hc => by simp at hc⟩
  | v :: r, cs, us, hx, hs, hl => by
    simp only [treeCells, Option.bind_eq_some_iff, Option.map_eq_some_iff] at hx
    obtain ⟨c, hc, cs', hcs, rfl⟩ := hx
    simp only [List.all_cons, Bool.and_eq_true] at hs
    cases us with
    | nil => exact absurd hl.1 (by simp)
    | cons u us =>
      have ih := treeCells_still h (us := us) hcs hs.2 ⟨by simpa using hl.1, fun j p q hp hq => hl.2 (j + 1) p q (by simpa using hp) (by simpa using hq)⟩
      refine ⟨by simpa using ih.1, fun j p q hp hq => ?_⟩
      cases j with
      | zero =>
        simp at hp hq
        subst hp hq
        exact treeCell_still h hc hs.1 (hl.2 0 v u rfl rfl)
      | succ j => exact ih.2 j p q (by simpa using hp) (by simpa using hq)

theorem argTree_spec (h : HR w0 Zc m S.ob S.cnt w) {x : AV} {y : TV} {v : Value} (hx : argTree S x = some y) (hv : AVR w (vol m S.ob Zc) m S.ob x v) : TVR w Zc y v ∧ (x.still S = true → TVR w (vol m S.ob Zc) y v) := by
  cases x with
  | one x =>
    simp only [argTree, Option.map_eq_some_iff] at hx
    obtain ⟨c, hc, rfl⟩ := hx
    exact ⟨⟨c, rfl, treeCell_spec h hc hv⟩, fun hs => ⟨c, rfl, treeCell_still h hc hs hv⟩⟩
  | agg vs =>
    simp only [argTree, Option.map_eq_some_iff] at hx
    obtain ⟨cs, hcs, rfl⟩ := hx
    obtain ⟨us, rfl, hl⟩ := hv
    exact ⟨⟨us, rfl, treeCells_spec h hcs hl⟩, fun hs => ⟨us, rfl, treeCells_still h hcs hs hl⟩⟩
  | tup l => cases hx
  | undef => cases hx

theorem argTrees_spec (h : HR w0 Zc m S.ob S.cnt w) : ∀ {xs : List AV} {ys : List TV}, argTrees S xs = some ys → ys.length = xs.length ∧
    (∀ (j : Nat) y x v, ys[j]? = some y → xs[j]? = some x → AVR w (vol m S.ob Zc) m S.ob x v → TVR w Zc y v ∧ (x.still S = true → TVR w (vol m S.ob Zc) y v))
  | [], ys, hx => by
    injection hx with hx; subst hx
    exact ⟨rfl, fun j y x v hy => by simp at hy⟩
  | x :: r, ys, hx => by
    simp only [argTrees, Option.bind_eq_some_iff, Option.map_eq_some_iff] at hx
    obtain ⟨y, hy, ys', hys, rfl⟩ := hx
    obtain ⟨i1, i2⟩ := argTrees_spec h hys
    refine ⟨by simp [i1], fun j p q v hp hq hv => ?_⟩
    cases j with
    | zero =>
      simp at hp hq
      subst hp hq
      exact argTree_spec h hy hv
    | succ j => exact i2 j p q v (by simpa using hp) (by simpa using hq) hv

theorem tv_av {y : TV} {v : Value} {ob : Nm → Option Ob} (h : TVR w Z y v) : AVR w Z m ob y.av v := by
  obtain ⟨b, cs⟩ := y
  cases b with
  | true =>
    obtain ⟨us, rfl, h1, h2⟩ := h
    refine ⟨us, rfl, by simpa using h1, fun j x u hx hu => ?_⟩
    simp only [List.getElem?_map, Option.map_eq_some_iff] at hx
    obtain ⟨c, hc, rfl⟩ := hx
    exact h2 j c u hc hu
  | false =>
    obtain ⟨c, rfl, hc⟩ := h
    exact hc

theorem tr_av {r : TR} {v : Value} {ob : Nm → Option Ob} (h : TRR w Z r v) : AVR w Z m ob r.av v := by
  cases r with
  | sv x => exact tv_av h
  | tup l =>
    obtain ⟨us, rfl, h1, h2⟩ := h
    refine ⟨us, rfl, by simpa using h1, fun j s u hs hu => ?_⟩
    simp only [List.getElem?_map, Option.map_eq_some_iff] at hs
    obtain ⟨⟨b, cs⟩, hq, rfl⟩ := hs
    have ht := h2 j _ u hq hu
    cases b with
    | true =>
      obtain ⟨us', rfl, g1, g2⟩ := ht
      refine ⟨us', rfl, by simpa using g1, fun j x u hx hu => ?_⟩
      simp only [List.getElem?_map, Option.map_eq_some_iff] at hx
      obtain ⟨c, hc, rfl⟩ := hx
      exact g2 j c u hc hu
    | false =>
      obtain ⟨c, rfl, hc⟩ := ht
      exact ⟨.t c, rfl, hc⟩

theorem TVR.any {y : TV} {v : Value} (hp : y.2.all C.plain = true) (h : TVR w Z y v) (Z' : Nat → Prop) : TVR w Z' y v := by
  obtain ⟨b, cs⟩ := y
  simp only [List.all_eq_true] at hp
  cases b with
  | true =>
    obtain ⟨us, rfl, h1, h2⟩ := h
    exact ⟨us, rfl, h1, fun j c u hc hu => CR.any (hp c (List.mem_of_getElem? hc)) (h2 j c u hc hu) Z'⟩
  | false =>
    obtain ⟨c, rfl, hc⟩ := h
    exact ⟨c, rfl, CR.any (hp c (by simp)) hc Z'⟩

theorem TRR.any {r : TR} {v : Value} (hp : r.plain = true) (h : TRR w Z r v) (Z' : Nat → Prop) : TRR w Z' r v := by
  cases r with
  | sv x => exact TVR.any hp h Z'
  | tup l =>
    obtain ⟨us, rfl, h1, h2⟩ := h
    refine ⟨us, rfl, h1, fun j s u hs hu => TVR.any ?_ (h2 j s u hs hu) Z'⟩
    exact List.all_eq_true.1 hp s (List.mem_of_getElem? hs)

theorem ext_below {ob : Nm → Option Ob} (hb : Below w.heap.size w w') (Z : Nat → Prop) : Ext w Z m ob w' Z m ob :=
  ⟨⟨fun b _ hlt => hb.block b hlt, fun _ _ h => h, hb.size⟩, fun _ _ => rfl, fun _ _ => rfl, fun o x h => ⟨x, h, rfl, rfl⟩⟩

theorem hr_below {ob : Nm → Option Ob} {cnt : Nat → Nat} (h : HR w0 Zc m ob cnt w) (hb : Below w.heap.size w w') : HR w0 Zc m ob cnt w' :=
  ⟨h.below.trans (hb.mono h.size), h.zc, h.fresh, fun o x ho hl => OR.ext (ext_below hb _) (by rw [ho]; simp) (hb.block _ (h.at_lt ho hl)) (h.obs o x ho hl), h.inj⟩

/-- The contract over trees, at a call. -/
theorem callS_tree {f : FuncId} {args : List AV} {targs : List TV} {r : TR} {ob : Nm → Option Ob} {cnt : Nat → Nat} {R : AV → (Nm → Option Ob) → (Nat → Nat) → Prop} (h : CallOK P f targs r)
    (ht : argTrees ⟨fun _ => .undef, ob, cnt⟩ args = some targs) (hs : (r.plain || args.all (AV.still ⟨fun _ => .undef, ob, cnt⟩)) = true) (hR : R r.av ob cnt) : CallS P f args ob cnt R := by
  refine ⟨h.1, fun w0 Zc m w cargs hr hlen hargs => ?_⟩
  obtain ⟨i1, i2⟩ := argTrees_spec (S := ⟨fun _ => .undef, ob, cnt⟩) hr ht
  have fin : ∀ v w', Below w.heap.size w w' → TRR w' (vol m ob Zc) r v → ∃ v_1 r_1 ob' cnt' m', Ending.returned v = .returned v_1 ∧ R r_1 ob' cnt' ∧ HR w0 Zc m' ob' cnt' w' ∧ Ext w (vol m ob Zc) m ob w' (vol m' ob' Zc) m' ob' ∧ AVR w' (vol m' ob' Zc) m' ob' r_1 v_1 :=
    fun v w' hb hv => ⟨v, _, ob, cnt, m, rfl, hR, hr_below hr hb, ext_below hb _, tr_av hv⟩
  by_cases hp : r.plain = true
  · refine (h.2 w Zc cargs (fun b hb => by have := hr.zc b hb; have := hr.size; omega) (by omega) (fun j s u hs hu => ?_)).mono ?_
    · have hj : j < args.length := by rw [← i1]; exact (List.getElem?_eq_some_iff.1 hs).1
      exact (i2 j s _ u hs (List.getElem?_eq_getElem hj) (hargs j _ u (List.getElem?_eq_getElem hj) hu)).1
    · rintro e w' ⟨v, rfl, hv, hb⟩
      exact fin v w' hb (TRR.any hp hv _)
  · have hst : args.all (AV.still ⟨fun _ => .undef, ob, cnt⟩) = true := by
      cases hq : r.plain with
      | true => exact absurd hq hp
      | false => rw [hq] at hs; simpa using hs
    refine (h.2 w (vol m ob Zc) cargs (fun b hb => ?_) (by omega) (fun j s u hs hu => ?_)).mono ?_
    · rcases hb with hb | ⟨o, x, ho, hl, _, e⟩
      · have := hr.zc b hb
        have := hr.size
        omega
      · rw [← e]
        exact hr.at_lt ho hl
    · have hj : j < args.length := by rw [← i1]; exact (List.getElem?_eq_some_iff.1 hs).1
      exact (i2 j s _ u hs (List.getElem?_eq_getElem hj) (hargs j _ u (List.getElem?_eq_getElem hj) hu)).2 (List.all_eq_true.1 hst _ (List.getElem_mem hj))
    · rintro e w' ⟨v, rfl, hv, hb⟩
      exact fin v w' hb hv

/-! ### A new row comes back -/
def RowOf (w w' : World) (typ esz n : Nat) (cs : List C) (v : Value) : Prop :=
  (n = 0 ∧ ∃ A, v = .slice A 0 0) ∨ (0 < n ∧ ∃ (g cap : Nat) (arr : Array Value), w.heap.size ≤ g ∧ w'.heap[g]? = some (.cells arr typ (0, 0)) ∧ v = .slice (some ⟨g, 0, none⟩) n cap ∧ arr.size = cap * esz ∧ n ≤ cap ∧ cap ≤ maxLen ∧
    ∀ (j : Nat) c, cs[j]? = some c → ∃ u, arr[j]? = some u ∧ CR w' (fun _ => False) c u)

/-- Called with what reads as these trees, the function returns a slice of its own of these cells; nothing that was there has changed. -/
def CallRow (P : Program) (f : FuncId) (args : List TV) (typ esz n : Nat) (cs : List C) : Prop := callable P f = true ∧ cs.all C.plain = true ∧ cs.length = n * esz ∧ 0 < esz ∧
  ∀ (w : World) (Z : Nat → Prop) (cargs : Array Value), (∀ b, Z b → b < w.heap.size) → args.length = cargs.size →
    (∀ (j : Nat) s u, args[j]? = some s → cargs[j]? = some u → TVR w Z s u) →
    Calls P f cargs w fun e w' => ∃ v, e = .returned v ∧ RowOf w w' typ esz n cs v ∧ Below w.heap.size w w'

def rowEff (S : St) (nm typ esz n : Nat) (cs : List C) : Eff := if n = 0 then S.val (.one .nil) else S.new nm ⟨true, true, false, esz, n, typ, cs.map .t⟩ (.one (.row (nm, S.cnt nm)))

theorem callS_row {f : FuncId} {args : List AV} {targs : List TV} {typ esz n : Nat} {cs : List C} {ob : Nm → Option Ob} {cnt : Nat → Nat} {R : AV → (Nm → Option Ob) → (Nat → Nat) → Prop} (nm : Nat) (h : CallRow P f targs typ esz n cs)
    (ht : argTrees ⟨fun _ => .undef, ob, cnt⟩ args = some targs) (hR : R (rowEff ⟨fun _ => .undef, ob, cnt⟩ nm typ esz n cs).v (rowEff ⟨fun _ => .undef, ob, cnt⟩ nm typ esz n cs).ob (rowEff ⟨fun _ => .undef, ob, cnt⟩ nm typ esz n cs).cnt) : CallS P f args ob cnt R := by
  obtain ⟨hc, hpl, hlen0, hesz, h⟩ := h
  refine ⟨hc, fun w0 Zc m w cargs hr hlen hargs => ?_⟩
  obtain ⟨i1, i2⟩ := argTrees_spec (S := ⟨fun _ => .undef, ob, cnt⟩) hr ht
  refine (h w Zc cargs (fun b hb => by have := hr.zc b hb; have := hr.size; omega) (by omega) (fun j s u hs hu => ?_)).mono ?_
  · have hj : j < args.length := by rw [← i1]; exact (List.getElem?_eq_some_iff.1 hs).1
    exact (i2 j s _ u hs (List.getElem?_eq_getElem hj) (hargs j _ u (List.getElem?_eq_getElem hj) hu)).1
  · rintro e w' ⟨v, rfl, hv, hb⟩
    rcases hv with ⟨rfl, A, rfl⟩ | ⟨hn, g, cap, arr, hg, hh, rfl, h1, h2, h3, h4⟩
    · exact ⟨_, .one .nil, ob, cnt, m, rfl, by simpa [rowEff, St.val] using hR, hr_below hr hb, ext_below hb _, ⟨A, rfl⟩⟩
    · have hne : ¬ n = 0 := by omega
      simp only [rowEff, if_neg hne, St.new] at hR
      refine ⟨_, _, _, _, m.set (nm, cnt nm) g cap, rfl, hR, hr_new_at hr nm ⟨true, true, false, esz, n, typ, cs.map .t⟩ cap g hg hb (fun _ => ⟨arr, hh, ?_, fun j x hx => ?_⟩), ext_new_at hr nm _ cap g hg (fun b hb' => hb.block b hb') hb.size, ?_⟩
      · simp only [if_true]
        refine ⟨h1, h2, h3, by simpa using hlen0, hesz, fun x hx => ?_⟩
        obtain ⟨c, _, rfl⟩ := List.mem_map.1 hx
        exact ⟨c, rfl⟩
      · simp only [List.getElem?_map, Option.map_eq_some_iff] at hx
        obtain ⟨c, hc, rfl⟩ := hx
        obtain ⟨u, g1, g2⟩ := h4 j c hc
        refine ⟨u, g1, ?_⟩
        have hp : c.plain = true := List.all_eq_true.1 hpl c (List.mem_of_getElem? hc)
        cases g2 with
        | int k n => exact CR.int k n
        | bool b => exact CR.bool b
        | sl => cases hp
      · exact ⟨_, by simp [upd_same]; rfl, rfl, by simp [Map.set, upd_same]⟩

/-- What a function's own row says, read off at its end. -/
def rowIs (typ esz n : Nat) (cs : List C) (ob : Nm → Option Ob) (r : AV) : Prop :=
  (n = 0 ∧ r = .one .nil) ∨ (0 < n ∧ ∃ o x, r = .one (.row o) ∧ ob o = some x ∧ x.live = true ∧ x.isRow = true ∧ x.typ = typ ∧ x.esz = esz ∧ x.n = n ∧ x.cells = cs.map .t)

theorem callRow_of_S {f : FuncId} {args : List TV} {typ esz n : Nat} {cs : List C} (hpl : cs.all C.plain = true) (hl : cs.length = n * esz) (he : 0 < esz)
    (h : CallS P f (args.map TV.av) noOb noCnt (fun x ob cnt => rowIs typ esz n cs ob x)) : CallRow P f args typ esz n cs := by
  refine ⟨h.1, hpl, hl, he, fun w Z cargs hz hlen hargs => ?_⟩
  let m0 : Map := ⟨fun _ => 0, fun _ => 0⟩
  have hr : HR w Z m0 noOb noCnt w := ⟨Below.refl _ _, hz, fun _ _ _ => rfl, fun _ _ h => (by cases h), fun _ _ _ _ h => (by cases h)⟩
  have hv : ∀ b, vol m0 noOb Z b → Z b := by
    rintro b (h | ⟨o, x, h, _⟩)
    · exact h
    · cases h
  refine (h.2 w Z m0 w cargs hr (by simpa using hlen) (fun j x u hx hu => ?_)).mono ?_
  · simp only [List.getElem?_map, Option.map_eq_some_iff] at hx
    obtain ⟨s, hs, rfl⟩ := hx
    have ht := hargs j s u hs hu
    obtain ⟨b, cs⟩ := s
    cases b with
    | true =>
      obtain ⟨us, rfl, h1, h2⟩ := ht
      refine ⟨us, rfl, by simpa using h1, fun i v q hv' hq => ?_⟩
      simp only [List.getElem?_map, Option.map_eq_some_iff] at hv'
      obtain ⟨c, hc, rfl⟩ := hv'
      exact (h2 i c q hc hq).weaken hv
    | false =>
      obtain ⟨c, rfl, hc⟩ := ht
      exact CR.weaken hv hc
  · rintro e w' ⟨v, x, ob', cnt', m', rfl, hx, h1, h2, h3⟩
    refine ⟨v, rfl, ?_, h1.below⟩
    rcases hx with ⟨rfl, rfl⟩ | ⟨hn, o, x, rfl, ho, hlv, hrow, rfl, rfl, rfl, hcs⟩
    · exact .inl ⟨rfl, h3⟩
    · obtain ⟨x', ho', _, rfl⟩ := h3
      rw [ho] at ho'
      injection ho' with ho'
      subst ho'
      obtain ⟨hbase, arr, g1, g2, g3⟩ := h1.obs o x ho hlv
      rw [if_pos hrow] at g2
      refine .inr ⟨hn, m'.at_ o, m'.cap o, arr, hbase, g1, rfl, g2.1, g2.2.1, g2.2.2.1, fun j c hc => ?_⟩
      obtain ⟨u, q1, _, q3⟩ := g3 j (.t c) (by rw [hcs]; simp [hc])
      exact ⟨u, q1, CR.any (List.all_eq_true.1 hpl c (List.mem_of_getElem? hc)) q3 _⟩

theorem callOK_of_row {f : FuncId} {args : List TV} {typ esz n : Nat} {cs : List C} (h : CallRow P f args typ esz n cs) : CallOK P f args (.sv (false, [.sl n cs])) := by
  obtain ⟨hc, hpl, hlen0, hesz, h⟩ := h
  refine ⟨hc, fun w Z cargs hz hlen hargs => (h w Z cargs hz hlen hargs).mono ?_⟩
  rintro e w' ⟨v, rfl, hv, hb⟩
  refine ⟨v, rfl, ⟨.sl n cs, rfl, ?_⟩, hb⟩
  rcases hv with ⟨rfl, A, rfl⟩ | ⟨hn, g, cap, arr, hg, hh, rfl, h1, h2, h3, h4⟩
  · have : cs = [] := List.eq_nil_of_length_eq_zero (by simpa using hlen0)
    subst this
    exact .sl 0 0 [] A (fun _ => default) (Nat.le_refl _) (fun h => by simp at h) (fun j c h => by simp at h)
  · refine .sl n cap cs (some ⟨g, 0, none⟩) (fun j => arr[j]?.getD default) h2 (fun _ => ⟨_, rfl, fun hz' => ?_, fun j hj => ?_⟩) (fun j c hj => ?_)
    · have := hz _ hz'
      simp only at this
      omega
    · rw [add_ptr, Nat.zero_add, cell_of_row w' _ _ _ _ _ hh]
      obtain ⟨u, g1, _⟩ := h4 j cs[j] (List.getElem?_eq_getElem hj)
      rw [g1]
      rfl
    · obtain ⟨u, g1, g2⟩ := h4 j c hj
      rw [g1]
      exact CR.any (List.all_eq_true.1 hpl c (List.mem_of_getElem? hj)) g2 _

/-! ### A row that is not written any more -/
def frzOne (ob : Nm → Option Ob) (o : Nm) : Nm → Option Ob := match ob o with
  | some x => upd ob o (some { x with frz := true })
  | none => ob

theorem frz_ext {w0 : World} {ob : Nm → Option Ob} {cnt : Nat → Nat} (h : HR w0 Zc m ob cnt w) (o : Nm) : HR w0 Zc m (frzOne ob o) cnt w ∧ Ext w (vol m ob Zc) m ob w (vol m (frzOne ob o) Zc) m (frzOne ob o) := by
  unfold frzOne
  cases hx : ob o with
  | none => exact ⟨h, Ext.refl ..⟩
  | some x =>
    simp only
    have sub : ∀ b, vol m (upd ob o (some { x with frz := true })) Zc b → vol m ob Zc b := by
      rintro b (hb | ⟨p, y, hp, hl, hf, e⟩)
      · exact .inl hb
      · by_cases e' : p = o
        · subst e'
          rw [upd_same] at hp
          injection hp with hp
          subst hp
          cases hf
        · rw [upd_ne _ _ e'] at hp
          exact .inr ⟨p, y, hp, hl, hf, e⟩
    have ex : Ext w (vol m ob Zc) m ob w (vol m (upd ob o (some { x with frz := true })) Zc) m (upd ob o (some { x with frz := true })) := by
      refine ⟨⟨fun _ _ _ => rfl, fun b _ hb => sub b hb, Nat.le_refl _⟩, fun _ _ => rfl, fun _ _ => rfl, fun p y hp => ?_⟩
      by_cases e' : p = o
      · subst e'
        rw [hx] at hp
        injection hp with hp
        subst hp
        exact ⟨_, upd_same .., rfl, rfl⟩
      · exact ⟨y, by rw [upd_ne _ _ e']; exact hp, rfl, rfl⟩
    refine ⟨⟨h.below, h.zc, fun nm g hg => ?_, fun p y hp hl => ?_, fun p y p' y' hp hl hp' hl' he => ?_⟩, ex⟩
    · rw [upd_ne _ _ (by rintro rfl; rw [h.fresh nm g hg] at hx; cases hx)]
      exact h.fresh nm g hg
    · by_cases e' : p = o
      · subst e'
        rw [upd_same] at hp
        injection hp with hp
        subst hp
        obtain ⟨b1, arr, b2, b3, b4⟩ := OR.ext ex (by rw [hx]; simp) rfl (h.obs p x hx hl)
        exact ⟨b1, arr, b2, b3, b4⟩
      · rw [upd_ne _ _ e'] at hp
        exact OR.ext ex (by rw [hp]; simp) rfl (h.obs p y hp hl)
    · have back : ∀ (p : Nm) (y : Ob), upd ob o (some { x with frz := true }) p = some y → y.live = true → ∃ z, ob p = some z ∧ z.live = true := by
        intro p y hp hl
        by_cases e' : p = o
        · subst e'
          rw [upd_same] at hp
          injection hp with hp
          subst hp
          exact ⟨x, hx, hl⟩
        · rw [upd_ne _ _ e'] at hp
          exact ⟨y, hp, hl⟩
      obtain ⟨z, q1, q2⟩ := back p y hp hl
      obtain ⟨z', q1', q2'⟩ := back p' y' hp' hl'
      exact h.inj p z p' z' q1 q2 q1' q2' he

def frzAll : List Nm → (Nm → Option Ob) → Nm → Option Ob
  | [], ob => ob
  | o :: r, ob => frzAll r (frzOne ob o)

theorem callS_freeze {f : FuncId} {args : List AV} {cnt : Nat → Nat} {R : AV → (Nm → Option Ob) → (Nat → Nat) → Prop} : ∀ (l : List Nm) {ob : Nm → Option Ob}, CallS P f args (frzAll l ob) cnt R → CallS P f args ob cnt R
  | [], ob, h => h
  | o :: r, ob, h => by
    have h := callS_freeze r h
    refine ⟨h.1, fun w0 Zc m w cargs hr hlen hargs => ?_⟩
    obtain ⟨h1, h2⟩ := frz_ext hr o
    refine (h.2 w0 Zc m w cargs h1 hlen fun j x u hx hu => AVR.ext h2 (hargs j x u hx hu)).mono ?_
    rintro e w' ⟨v, r, ob', cnt', m', rfl, g1, g2, g3, g4⟩
    exact ⟨v, r, ob', cnt', m', rfl, g1, g2, h2.trans g3, g4⟩
end
end Go.Proofs.Ythapbbpdcjmmfaa.Abs
