/-
  A small program logic over the model: abstract states, what they say of a world, and how this lives on. No condition beyond those that each statement names.
-/
import Derived.Below
import Derived.Deep.MidRow
import Derived.OwnWalk
import Derived.Orders
import Derived.Laws.MakeOwn
import Derived.WalkKit
namespace Go.Proofs.Ythapbbpdcjmmfaa.Abs
open Go.RowKit
set_option linter.unusedVariables false

/-- What one cell leads to. -/
inductive C where
  | int (k : IntKind) (n : Int)
  | bool (b : Bool)
  | sl (n : Nat) (cells : List C)

/-- A world reads so at a value; no block of Z is looked at. -/
inductive CR (w : World) (Z : Nat → Prop) : C → Value → Prop
  | int (k : IntKind) (n : Int) : CR w Z (.int k n) (.int k n)
  | bool (b : Bool) : CR w Z (.bool b) (.bool b)
  | sl (n cap : Nat) (cells : List C) (A : Option Addr) (us : Nat → Value) (hcap : n ≤ cap)
      (ha : 0 < cells.length → ∃ ad, A = some ad ∧ ¬ Z ad.block ∧ ∀ j, j < cells.length → w.cell? (ad.add j) = some (us j))
      (hc : ∀ (j : Nat) c, cells[j]? = some c → CR w Z c (us j)) : CR w Z (.sl n cells) (.slice A n cap)

/-- From w to w': only what Z names, or what is new, may have changed. -/
structure Step (w : World) (Z : Nat → Prop) (w' : World) (Z' : Nat → Prop) : Prop where
  block : ∀ b, ¬ Z b → b < w.heap.size → w'.heap[b]? = w.heap[b]?
  old : ∀ b, b < w.heap.size → Z' b → Z b
  size : w.heap.size ≤ w'.heap.size

theorem cell_lt {w : World} {a : Addr} {v : Value} (h : w.cell? a = some v) : a.block < w.heap.size := World.block_lt_of_cell? w a h

theorem Step.cell {w w' : World} {Z Z' : Nat → Prop} (s : Step w Z w' Z') {a : Addr} {v : Value} (h : w.cell? a = some v) (hz : ¬ Z a.block) : w'.cell? a = some v :=
  (World.cell?_of_block (w := w) (s.block a.block hz (cell_lt h))).trans h

theorem add_block (a : Addr) (j : Nat) : (a.add j).block = a.block := by
  unfold Addr.add
  split <;> rfl

theorem Step.refl (w : World) (Z : Nat → Prop) : Step w Z w Z := ⟨fun _ _ _ => rfl, fun _ _ h => h, Nat.le_refl _⟩

theorem CR.step {w w' : World} {Z Z' : Nat → Prop} (s : Step w Z w' Z') {c : C} {v : Value} (h : CR w Z c v) : CR w' Z' c v := by
  induction h with
  | int k n => exact .int k n
  | bool b => exact .bool b
  | sl n cap cells A us hcap ha hc ih =>
    refine .sl n cap cells A us hcap (fun hp => ?_) ih
    obtain ⟨ad, e, hz, hr⟩ := ha hp
    refine ⟨ad, e, fun hz' => hz (s.old _ ?_ hz'), fun j hj => s.cell (hr j hj) (by rw [add_block]; exact hz)⟩
    have := cell_lt (hr 0 hp)
    rwa [add_block] at this

theorem CR.weaken {w : World} {Z Z' : Nat → Prop} (hz : ∀ b, Z' b → Z b) {c : C} {v : Value} (h : CR w Z c v) : CR w Z' c v :=
  h.step ⟨fun _ _ _ => rfl, fun b _ h => hz b h, Nat.le_refl _⟩

theorem CR.one {w : World} {Z : Nat → Prop} {c : C} {v : Value} (h : CR w Z c v) : v.oneCell' = true := by cases h <;> rfl

/-- A static name, and which of the objects that bore it. -/
abbrev Nm := Nat × Nat

inductive V1 where
  | t (x : C)
  | nil
  | row (o : Nm)
  | ptr (o : Nm) (off : Nat)
  | pro (cs : List C)
  | fn (f : FuncId) (caps : List Nm)

inductive AV where
  | one (v : V1)
  | agg (vs : List V1)
  | tup (vs : List (Bool × List V1))
  | undef

structure Ob where
  live : Bool
  isRow : Bool
  frz : Bool
  esz : Nat
  n : Nat
  typ : TypeId
  cells : List V1

structure St where
  fr : Nat → AV
  ob : Nm → Option Ob
  cnt : Nat → Nat

/-- Where the objects lie; the rows' capacities. -/
structure Map where
  at_ : Nm → Nat
  cap : Nm → Nat

section rel
variable (w : World) (Z : Nat → Prop) (m : Map) (ob : Nm → Option Ob)

def ptrV (m : Map) (o : Nm) : Value := .pointer (some ⟨m.at_ o, 0, none⟩)

def V1R : V1 → Value → Prop
  | .t x, v => CR w Z x v
  | .nil, v => ∃ A, v = .slice A 0 0
  | .row o, v => ∃ x, ob o = some x ∧ x.isRow = true ∧ v = .slice (some ⟨m.at_ o, 0, none⟩) x.n (m.cap o)
  | .ptr o off, v => ob o ≠ none ∧ v = .pointer (some ⟨m.at_ o, off, none⟩)
  | .pro cs, v => ∃ ad, v = .pointer (some ad) ∧ (cs ≠ [] → ¬ Z ad.block) ∧ ∀ (j : Nat) c, cs[j]? = some c → ∃ u, w.cell? (ad.add j) = some u ∧ CR w Z c u
  | .fn f caps, v => (∀ o ∈ caps, ob o ≠ none) ∧ v = .func (.func f) #[] (caps.map (ptrV m)).toArray

def L1R (vs : List V1) (us : List Value) : Prop := vs.length = us.length ∧ ∀ (j : Nat) v u, vs[j]? = some v → us[j]? = some u → V1R w Z m ob v u

def SVR : Bool × List V1 → Value → Prop
  | (true, vs), v => ∃ us : Array Value, v = .agg us ∧ L1R w Z m ob vs us.toList
  | (false, vs), v => ∃ x, vs = [x] ∧ V1R w Z m ob x v

def AVR : AV → Value → Prop
  | .one x, v => V1R w Z m ob x v
  | .agg vs, v => ∃ us : Array Value, v = .agg us ∧ L1R w Z m ob vs us.toList
  | .tup ss, v => ∃ us : Array Value, v = .tuple us ∧ ss.length = us.size ∧ ∀ (j : Nat) s u, ss[j]? = some s → us[j]? = some u → SVR w Z m ob s u
  | .undef, v => v = undef

/-- What an object says of its block. -/
structure OR (w0 : World) (o : Nm) (x : Ob) : Prop where
  base : w0.heap.size ≤ m.at_ o
  cells : ∃ arr : Array Value, w.heap[m.at_ o]? = some (.cells arr x.typ (0, 0)) ∧
    (if x.isRow then arr.size = m.cap o * x.esz ∧ x.n ≤ m.cap o ∧ m.cap o ≤ maxLen ∧ x.cells.length = x.n * x.esz ∧ 0 < x.esz ∧ (∀ v ∈ x.cells, ∃ c, v = .t c) else arr.size = x.cells.length) ∧
    (∀ (j : Nat) v, x.cells[j]? = some v → ∃ u, arr[j]? = some u ∧ u.oneCell' = true ∧ V1R w Z m ob v u)
end rel

/-- The blocks that may still be written. -/
def vol (m : Map) (ob : Nm → Option Ob) (Zc : Nat → Prop) (b : Nat) : Prop := Zc b ∨ ∃ o x, ob o = some x ∧ x.live = true ∧ x.frz = false ∧ m.at_ o = b

/-- What is said of memory. -/
structure HR (w0 : World) (Zc : Nat → Prop) (m : Map) (ob : Nm → Option Ob) (cnt : Nat → Nat) (w : World) : Prop where
  below : Below w0.heap.size w0 w
  zc : ∀ b, Zc b → b < w0.heap.size
  fresh : ∀ nm g, cnt nm ≤ g → ob (nm, g) = none
  obs : ∀ o x, ob o = some x → x.live = true → OR w (vol m ob Zc) m ob w0 o x
  inj : ∀ o x o' x', ob o = some x → x.live = true → ob o' = some x' → x'.live = true → m.at_ o = m.at_ o' → o = o'

/-- What a value says lives on: where the maps agree on the old objects, and these keep their sizes. -/
structure Ext (w : World) (Z : Nat → Prop) (m : Map) (ob : Nm → Option Ob) (w' : World) (Z' : Nat → Prop) (m' : Map) (ob' : Nm → Option Ob) : Prop where
  step : Step w Z w' Z'
  at_ : ∀ o, ob o ≠ none → m'.at_ o = m.at_ o
  cap : ∀ o, ob o ≠ none → m'.cap o = m.cap o
  ob : ∀ o x, ob o = some x → ∃ x', ob' o = some x' ∧ x'.isRow = x.isRow ∧ x'.n = x.n

/-- Where a call began. -/
structure Ini where
  w : World
  m : Map
  ob : Nm → Option Ob

structure Sim (w0 : World) (I : Ini) (Zc : Nat → Prop) (N : Nat) (m : Map) (S : St) (a : Act) (w : World) : Prop where
  heap : HR w0 Zc m S.ob S.cnt w
  defers : a.defers = []
  size : a.tmps.size = N
  fr : ∀ t, AVR w (vol m S.ob Zc) m S.ob (S.fr t) (a.tmps.getD t undef)
  past : Ext I.w (vol I.m I.ob Zc) I.m I.ob w (vol m S.ob Zc) m S.ob

section ext
variable {w w' : World} {Z Z' : Nat → Prop} {m m' : Map} {ob ob' : Nm → Option Ob}

theorem Step.trans {w w' w'' : World} {Z Z' Z'' : Nat → Prop} (h : Step w Z w' Z') (k : Step w' Z' w'' Z'') : Step w Z w'' Z'' :=
  ⟨fun b hz hb => (k.block b (fun hz' => hz (h.old b hb hz')) (Nat.lt_of_lt_of_le hb h.size)).trans (h.block b hz hb), fun b hb hz => h.old b hb (k.old b (Nat.lt_of_lt_of_le hb h.size) hz), Nat.le_trans h.size k.size⟩

theorem Ext.ne (e : Ext w Z m ob w' Z' m' ob') {o : Nm} (h : ob o ≠ none) : ob' o ≠ none := by
  cases hx : ob o with
  | none => exact absurd hx h
  | some x =>
    obtain ⟨x', h1, _⟩ := e.ob o x hx
    rw [h1]
    simp

theorem Ext.trans {w'' : World} {Z'' : Nat → Prop} {m'' : Map} {ob'' : Nm → Option Ob} (e : Ext w Z m ob w' Z' m' ob') (e' : Ext w' Z' m' ob' w'' Z'' m'' ob'') : Ext w Z m ob w'' Z'' m'' ob'' :=
  ⟨e.step.trans e'.step, fun o h => (e'.at_ o (e.ne h)).trans (e.at_ o h), fun o h => (e'.cap o (e.ne h)).trans (e.cap o h), fun o x h => by
    obtain ⟨y, h1, h2, h3⟩ := e.ob o x h
    obtain ⟨z, g1, g2, g3⟩ := e'.ob o y h1
    exact ⟨z, g1, g2.trans h2, g3.trans h3⟩⟩

theorem V1R.ext (e : Ext w Z m ob w' Z' m' ob') {x : V1} {v : Value} (h : V1R w Z m ob x v) : V1R w' Z' m' ob' x v := by
  cases x with
  | t x => exact CR.step e.step h
  | nil => exact h
  | row o =>
    obtain ⟨x, h1, h2, h3⟩ := h
    obtain ⟨x', g1, g2, g3⟩ := e.ob o x h1
    have hn : ob o ≠ none := by rw [h1]; simp
    exact ⟨x', g1, g2.trans h2, by rw [h3, g3, e.at_ o hn, e.cap o hn]⟩
  | ptr o off => exact ⟨e.ne h.1, by rw [h.2, e.at_ o h.1]⟩
  | pro cs =>
    obtain ⟨ad, h1, h2, h3⟩ := h
    refine ⟨ad, h1, fun hne hz => h2 hne (e.step.old _ ?_ hz), fun j c hj => ?_⟩
    · cases cs with
      | nil => exact absurd rfl hne
      | cons c r =>
        obtain ⟨u, hu, _⟩ := h3 0 c rfl
        have := cell_lt hu
        rwa [add_block] at this
    · obtain ⟨u, hu, hc⟩ := h3 j c hj
      have hne : cs ≠ [] := by
        rintro rfl
        simp at hj
      exact ⟨u, e.step.cell hu (by rw [add_block]; exact h2 hne), CR.step e.step hc⟩
  | fn f caps =>
    refine ⟨fun o ho => e.ne (h.1 o ho), ?_⟩
    rw [h.2]
    congr 2
    refine List.map_congr_left fun o ho => ?_
    unfold ptrV
    rw [e.at_ o (h.1 o ho)]

theorem L1R.ext (e : Ext w Z m ob w' Z' m' ob') {xs : List V1} {us : List Value} (h : L1R w Z m ob xs us) : L1R w' Z' m' ob' xs us :=
  ⟨h.1, fun j v u hv hu => V1R.ext e (h.2 j v u hv hu)⟩

theorem SVR.ext (e : Ext w Z m ob w' Z' m' ob') {x : Bool × List V1} {v : Value} (h : SVR w Z m ob x v) : SVR w' Z' m' ob' x v := by
  obtain ⟨b, vs⟩ := x
  cases b with
  | true =>
    obtain ⟨us, h1, h2⟩ := h
    exact ⟨us, h1, L1R.ext e h2⟩
  | false =>
    obtain ⟨x, h1, h2⟩ := h
    exact ⟨x, h1, V1R.ext e h2⟩

theorem AVR.ext (e : Ext w Z m ob w' Z' m' ob') {x : AV} {v : Value} (h : AVR w Z m ob x v) : AVR w' Z' m' ob' x v := by
  cases x with
  | one x => exact V1R.ext e h
  | agg vs =>
    obtain ⟨us, h1, h2⟩ := h
    exact ⟨us, h1, L1R.ext e h2⟩
  | tup ss =>
    obtain ⟨us, h1, h2, h3⟩ := h
    exact ⟨us, h1, h2, fun j s u hs hu => SVR.ext e (h3 j s u hs hu)⟩
  | undef => exact h

theorem OR.ext {w0 : World} {o : Nm} {x : Ob} (e : Ext w Z m ob w' Z' m' ob') (hne : ob o ≠ none) (hb : w'.heap[m.at_ o]? = w.heap[m.at_ o]?)
    (h : OR w Z m ob w0 o x) : OR w' Z' m' ob' w0 o x := by
  obtain ⟨hbase, arr, h1, h2, h3⟩ := h
  refine ⟨by rw [e.at_ o hne]; exact hbase, arr, by rw [e.at_ o hne, hb]; exact h1, by rw [e.cap o hne]; exact h2, fun j v hv => ?_⟩
  obtain ⟨u, g1, g2, g3⟩ := h3 j v hv
  exact ⟨u, g1, g2, V1R.ext e g3⟩
end ext
end Go.Proofs.Ythapbbpdcjmmfaa.Abs
