/-
  Joined texts: steps of this claim, part 1. No condition beyond those that each statement names.
-/
import Derived.Below
import Derived.Deep.MidRow
import Derived.OwnWalk
import Derived.Orders
import Derived.Laws.MakeOwn
import Derived.WalkKit
import Derived.Maps.AppendAt
import Derived.ArgAppend
import Derived.Laws.StructEq
import Derived.Laws.Small
import Derived.LoopN
/- A small program logic over the model: abstract states, what they say of a world, and how this lives on. -/
namespace Go.Proofs.YthcnpnogfblkcaaGreat.Abs
open Go.RowKit
set_option linter.unusedVariables false

/-- What one cell leads to. -/
inductive C where
  | int (k : IntKind) (n : Int)
  | bool (b : Bool)
  | sl (n : Nat) (cells : List C)

/-- A world reads so at a value; no block of Z is looked at. -/
inductive CR (w : World) (Z : Nat → Prop) : C → Value → Prop
  | int (k : IntKind) (n : Int) : CR w Z (.int k n) (.int k n)
  | bool (b : Bool) : CR w Z (.bool b) (.bool b)
  | sl (n cap : Nat) (cells : List C) (A : Option Addr) (us : Nat → Value) (hcap : n ≤ cap)
      (ha : 0 < cells.length → ∃ ad, A = some ad ∧ ¬ Z ad.block ∧ ∀ j, j < cells.length → w.cell? (ad.add j) = some (us j))
      (hc : ∀ (j : Nat) c, cells[j]? = some c → CR w Z c (us j)) : CR w Z (.sl n cells) (.slice A n cap)

/-- From w to w': only what Z names, or what is new, may have changed. -/
structure Step (w : World) (Z : Nat → Prop) (w' : World) (Z' : Nat → Prop) : Prop where
  block : ∀ b, ¬ Z b → b < w.heap.size → w'.heap[b]? = w.heap[b]?
  old : ∀ b, b < w.heap.size → Z' b → Z b
  size : w.heap.size ≤ w'.heap.size

theorem cell_lt {w : World} {a : Addr} {v : Value} (h : w.cell? a = some v) : a.block < w.heap.size := World.block_lt_of_cell? w a h

theorem Step.cell {w w' : World} {Z Z' : Nat → Prop} (s : Step w Z w' Z') {a : Addr} {v : Value} (h : w.cell? a = some v) (hz : ¬ Z a.block) : w'.cell? a = some v :=
  (World.cell?_of_block (w := w) (s.block a.block hz (cell_lt h))).trans h

theorem add_block (a : Addr) (j : Nat) : (a.add j).block = a.block := by
  unfold Addr.add
  split <;> rfl

theorem Step.refl (w : World) (Z : Nat → Prop) : Step w Z w Z := ⟨fun _ _ _ => rfl, fun _ _ h => h, Nat.le_refl _⟩

theorem CR.step {w w' : World} {Z Z' : Nat → Prop} (s : Step w Z w' Z') {c : C} {v : Value} (h : CR w Z c v) : CR w' Z' c v := by
  induction h with
  | int k n => exact .int k n
  | bool b => exact .bool b
  | sl n cap cells A us hcap ha hc ih =>
    refine .sl n cap cells A us hcap (fun hp => ?_) ih
    obtain ⟨ad, e, hz, hr⟩ := ha hp
    refine ⟨ad, e, fun hz' => hz (s.old _ ?_ hz'), fun j hj => s.cell (hr j hj) (by rw [add_block]; exact hz)⟩
    have := cell_lt (hr 0 hp)
    rwa [add_block] at this

theorem CR.weaken {w : World} {Z Z' : Nat → Prop} (hz : ∀ b, Z' b → Z b) {c : C} {v : Value} (h : CR w Z c v) : CR w Z' c v :=
  h.step ⟨fun _ _ _ => rfl, fun b _ h => hz b h, Nat.le_refl _⟩

theorem CR.one {w : World} {Z : Nat → Prop} {c : C} {v : Value} (h : CR w Z c v) : v.oneCell' = true := by cases h <;> rfl

/-- A static name, and which of the objects that bore it. -/
abbrev Nm := Nat × Nat

inductive V1 where
  | t (x : C)
  | nil
  | row (o : Nm)
  | ptr (o : Nm) (off : Nat)
  | pro (cs : List C)
  | fn (f : FuncId) (caps : List Nm)

inductive AV where
  | one (v : V1)
  | agg (vs : List V1)
  | tup (vs : List (Bool × List V1))
  | undef

structure Ob where
  live : Bool
  isRow : Bool
  frz : Bool
  esz : Nat
  n : Nat
  typ : TypeId
  cells : List V1

structure St where
  fr : Nat → AV
  ob : Nm → Option Ob
  cnt : Nat → Nat

/-- Where the objects lie; the rows' capacities. -/
structure Map where
  at_ : Nm → Nat
  cap : Nm → Nat

section rel
variable (w : World) (Z : Nat → Prop) (m : Map) (ob : Nm → Option Ob)

def ptrV (m : Map) (o : Nm) : Value := .pointer (some ⟨m.at_ o, 0, none⟩)

def V1R : V1 → Value → Prop
  | .t x, v => CR w Z x v
  | .nil, v => ∃ A, v = .slice A 0 0
  | .row o, v => ∃ x, ob o = some x ∧ x.isRow = true ∧ v = .slice (some ⟨m.at_ o, 0, none⟩) x.n (m.cap o)
  | .ptr o off, v => ob o ≠ none ∧ v = .pointer (some ⟨m.at_ o, off, none⟩)
  | .pro cs, v => ∃ ad, v = .pointer (some ad) ∧ (cs ≠ [] → ¬ Z ad.block) ∧ ∀ (j : Nat) c, cs[j]? = some c → ∃ u, w.cell? (ad.add j) = some u ∧ CR w Z c u
  | .fn f caps, v => (∀ o ∈ caps, ob o ≠ none) ∧ v = .func (.func f) #[] (caps.map (ptrV m)).toArray

def L1R (vs : List V1) (us : List Value) : Prop := vs.length = us.length ∧ ∀ (j : Nat) v u, vs[j]? = some v → us[j]? = some u → V1R w Z m ob v u

def SVR : Bool × List V1 → Value → Prop
  | (true, vs), v => ∃ us : Array Value, v = .agg us ∧ L1R w Z m ob vs us.toList
  | (false, vs), v => ∃ x, vs = [x] ∧ V1R w Z m ob x v

def AVR : AV → Value → Prop
  | .one x, v => V1R w Z m ob x v
  | .agg vs, v => ∃ us : Array Value, v = .agg us ∧ L1R w Z m ob vs us.toList
  | .tup ss, v => ∃ us : Array Value, v = .tuple us ∧ ss.length = us.size ∧ ∀ (j : Nat) s u, ss[j]? = some s → us[j]? = some u → SVR w Z m ob s u
  | .undef, v => v = undef

/-- What an object says of its block. -/
structure OR (w0 : World) (o : Nm) (x : Ob) : Prop where
  base : w0.heap.size ≤ m.at_ o
  cells : ∃ arr : Array Value, w.heap[m.at_ o]? = some (.cells arr x.typ (0, 0)) ∧
    (if x.isRow then arr.size = m.cap o * x.esz ∧ x.n ≤ m.cap o ∧ m.cap o ≤ maxLen ∧ x.cells.length = x.n * x.esz ∧ 0 < x.esz ∧ (∀ v ∈ x.cells, ∃ c, v = .t c) else arr.size = x.cells.length) ∧
    (∀ (j : Nat) v, x.cells[j]? = some v → ∃ u, arr[j]? = some u ∧ u.oneCell' = true ∧ V1R w Z m ob v u)
end rel

/-- The blocks that may still be written. -/
def vol (m : Map) (ob : Nm → Option Ob) (Zc : Nat → Prop) (b : Nat) : Prop := Zc b ∨ ∃ o x, ob o = some x ∧ x.live = true ∧ x.frz = false ∧ m.at_ o = b

/-- What is said of memory. -/
structure HR (w0 : World) (Zc : Nat → Prop) (m : Map) (ob : Nm → Option Ob) (cnt : Nat → Nat) (w : World) : Prop where
  below : Below w0.heap.size w0 w
  zc : ∀ b, Zc b → b < w0.heap.size
  fresh : ∀ nm g, cnt nm ≤ g → ob (nm, g) = none
  obs : ∀ o x, ob o = some x → x.live = true → OR w (vol m ob Zc) m ob w0 o x
  inj : ∀ o x o' x', ob o = some x → x.live = true → ob o' = some x' → x'.live = true → m.at_ o = m.at_ o' → o = o'

/-- What a value says lives on: where the maps agree on the old objects, and these keep their sizes. -/
structure Ext (w : World) (Z : Nat → Prop) (m : Map) (ob : Nm → Option Ob) (w' : World) (Z' : Nat → Prop) (m' : Map) (ob' : Nm → Option Ob) : Prop where
  step : Step w Z w' Z'
  at_ : ∀ o, ob o ≠ none → m'.at_ o = m.at_ o
  cap : ∀ o, ob o ≠ none → m'.cap o = m.cap o
  ob : ∀ o x, ob o = some x → ∃ x', ob' o = some x' ∧ x'.isRow = x.isRow ∧ x'.n = x.n

/-- Where a call began. -/
structure Ini where
  w : World
  m : Map
  ob : Nm → Option Ob

structure Sim (w0 : World) (I : Ini) (Zc : Nat → Prop) (N : Nat) (m : Map) (S : St) (a : Act) (w : World) : Prop where
  heap : HR w0 Zc m S.ob S.cnt w
  defers : a.defers = []
  size : a.tmps.size = N
  fr : ∀ t, AVR w (vol m S.ob Zc) m S.ob (S.fr t) (a.tmps.getD t undef)
  past : Ext I.w (vol I.m I.ob Zc) I.m I.ob w (vol m S.ob Zc) m S.ob

section ext
variable {w w' : World} {Z Z' : Nat → Prop} {m m' : Map} {ob ob' : Nm → Option Ob}

theorem Step.trans {w w' w'' : World} {Z Z' Z'' : Nat → Prop} (h : Step w Z w' Z') (k : Step w' Z' w'' Z'') : Step w Z w'' Z'' :=
  ⟨fun b hz hb => (k.block b (fun hz' => hz (h.old b hb hz')) (Nat.lt_of_lt_of_le hb h.size)).trans (h.block b hz hb), fun b hb hz => h.old b hb (k.old b (Nat.lt_of_lt_of_le hb h.size) hz), Nat.le_trans h.size k.size⟩

theorem Ext.ne (e : Ext w Z m ob w' Z' m' ob') {o : Nm} (h : ob o ≠ none) : ob' o ≠ none := by
  cases hx : ob o with
  | none => exact absurd hx h
  | some x =>
    obtain ⟨x', h1, _⟩ := e.ob o x hx
    rw [h1]
    simp

theorem Ext.trans {w'' : World} {Z'' : Nat → Prop} {m'' : Map} {ob'' : Nm → Option Ob} (e : Ext w Z m ob w' Z' m' ob') (e' : Ext w' Z' m' ob' w'' Z'' m'' ob'') : Ext w Z m ob w'' Z'' m'' ob'' :=
  ⟨e.step.trans e'.step, fun o h => (e'.at_ o (e.ne h)).trans (e.at_ o h), fun o h => (e'.cap o (e.ne h)).trans (e.cap o h), fun o x h => by
    obtain ⟨y, h1, h2, h3⟩ := e.ob o x h
    obtain ⟨z, g1, g2, g3⟩ := e'.ob o y h1
    exact ⟨z, g1, g2.trans h2, g3.trans h3⟩⟩

theorem V1R.ext (e : Ext w Z m ob w' Z' m' ob') {x : V1} {v : Value} (h : V1R w Z m ob x v) : V1R w' Z' m' ob' x v := by
  cases x with
  | t x => exact CR.step e.step h
  | nil => exact h
  | row o =>
    obtain ⟨x, h1, h2, h3⟩ := h
    obtain ⟨x', g1, g2, g3⟩ := e.ob o x h1
    have hn : ob o ≠ none := by rw [h1]; simp
    exact ⟨x', g1, g2.trans h2, by rw [h3, g3, e.at_ o hn, e.cap o hn]⟩
  | ptr o off => exact ⟨e.ne h.1, by rw [h.2, e.at_ o h.1]⟩
  | pro cs =>
    obtain ⟨ad, h1, h2, h3⟩ := h
    refine ⟨ad, h1, fun hne hz => h2 hne (e.step.old _ ?_ hz), fun j c hj => ?_⟩
    · cases cs with
      | nil => exact absurd rfl hne
      | cons c r =>
        obtain ⟨u, hu, _⟩ := h3 0 c rfl
        have := cell_lt hu
        rwa [add_block] at this
    · obtain ⟨u, hu, hc⟩ := h3 j c hj
      have hne : cs ≠ [] := by
        rintro rfl
        simp at hj
      exact ⟨u, e.step.cell hu (by rw [add_block]; exact h2 hne), CR.step e.step hc⟩
  | fn f caps =>
    refine ⟨fun o ho => e.ne (h.1 o ho), ?_⟩
    rw [h.2]
    congr 2
    refine List.map_congr_left fun o ho => ?_
    unfold ptrV
    rw [e.at_ o (h.1 o ho)]

theorem L1R.ext (e : Ext w Z m ob w' Z' m' ob') {xs : List V1} {us : List Value} (h : L1R w Z m ob xs us) : L1R w' Z' m' ob' xs us :=
  ⟨h.1, fun j v u hv hu => V1R.ext e (h.2 j v u hv hu)⟩

theorem SVR.ext (e : Ext w Z m ob w' Z' m' ob') {x : Bool × List V1} {v : Value} (h : SVR w Z m ob x v) : SVR w' Z' m' ob' x v := by
  obtain ⟨b, vs⟩ := x
  cases b with
  | true =>
    obtain ⟨us, h1, h2⟩ := h
    exact ⟨us, h1, L1R.ext e h2⟩
  | false =>
    obtain ⟨x, h1, h2⟩ := h
    exact ⟨x, h1, V1R.ext e h2⟩

theorem AVR.ext (e : Ext w Z m ob w' Z' m' ob') {x : AV} {v : Value} (h : AVR w Z m ob x v) : AVR w' Z' m' ob' x v := by
  cases x with
  | one x => exact V1R.ext e h
  | agg vs =>
    obtain ⟨us, h1, h2⟩ := h
    exact ⟨us, h1, L1R.ext e h2⟩
  | tup ss =>
    obtain ⟨us, h1, h2, h3⟩ := h
    exact ⟨us, h1, h2, fun j s u hs hu => SVR.ext e (h3 j s u hs hu)⟩
  | undef => exact h

theorem OR.ext {w0 : World} {o : Nm} {x : Ob} (e : Ext w Z m ob w' Z' m' ob') (hne : ob o ≠ none) (hb : w'.heap[m.at_ o]? = w.heap[m.at_ o]?)
    (h : OR w Z m ob w0 o x) : OR w' Z' m' ob' w0 o x := by
  obtain ⟨hbase, arr, h1, h2, h3⟩ := h
  refine ⟨by rw [e.at_ o hne]; exact hbase, arr, by rw [e.at_ o hne, hb]; exact h1, by rw [e.cap o hne]; exact h2, fun j v hv => ?_⟩
  obtain ⟨u, g1, g2, g3⟩ := h3 j v hv
  exact ⟨u, g1, g2, V1R.ext e g3⟩
end ext
end Go.Proofs.YthcnpnogfblkcaaGreat.Abs

/- The small code, how Go's operations come to it, and what one operation does to an abstract state. -/
namespace Go.Proofs.YthcnpnogfblkcaaGreat.Abs
open Go.RowKit
set_option linter.unusedVariables false

inductive Arg where
  | tmp (t : Nat)
  | c (v : AV)

inductive MOp where
  | mv (x : Arg)
  | pick (c a b : Arg)
  | alloc (nm typ : Nat) (zero : List V1)
  | box (nm typ : Nat) (x : Arg)
  | build (zero : List V1) (parts : List (Nat × Nat × Arg))
  | mkrow (nm typ esz len : Nat) (zero : List V1) (parts : List (Nat × Nat × Arg))
  | load (agg : Bool) (sz : Nat) (a : Arg)
  | store (sz : Nat) (a x : Arg)
  | nilck (x : Arg)
  | bin (op : BinOp) (x y : Arg)
  | eqS (neg : Bool) (n : Nat) (x y : Arg)
  | not (x : Arg)
  | conv (k : IntKind) (x : Arg)
  | mkfn (f : FuncId) (caps : List Arg)
  | make (nm typ esz bytes : Nat) (zero : List V1) (l c : Arg)
  | fieldA (off : Nat) (x : Arg)
  | idxA (esz : Nat) (x i : Arg)
  | idxArr (len esz : Nat) (x i : Arg)
  | extract (x : Arg) (i : Nat)
  | len (x : Arg)
  | append (nm typ esz bytes : Nat) (x y : Arg)
  | minmax (isMax : Bool) (x y : Arg)
  | isnil (neg : Bool) (x : Arg)
  | call (f : Arg) (nm : Nat) (args : List Arg)

/-- A value that is written in the code. -/
def v1Of : Value → Option V1
  | .int k n => some (.t (.int k n))
  | .bool b => some (.t (.bool b))
  | .slice none 0 0 => some .nil
  | _ => none

def v1s : List Value → Option (List V1)
  | [] => some []
  | v :: r => (v1Of v).bind fun x => (v1s r).map (x :: ·)

def cVal : Value → Option AV
  | .agg cs => (v1s cs.toList).map .agg
  | v => (v1Of v).map .one

def cArg : Operand → Option Arg
  | .tmp t => some (.tmp t)
  | .const v => (cVal v).map .c
  | .func f => some (.c (.one (.fn f [])))
  | _ => none

def cArgs : List Operand → Option (List Arg)
  | [] => some []
  | x :: r => (cArg x).bind fun y => (cArgs r).map (y :: ·)

section compile
variable (P : Program)

def zeroOf (t : TypeId) : Option (List V1) := (P.info? t).bind fun i => i.zero.bind fun z => v1s z.cells.toList

def aggB (t : TypeId) : Option Bool := match P.underlying t with
  | some (.struct _) | some (.array _ _) => some true
  | some _ => some false
  | none => none

def sizeB (t : TypeId) : Option Nat := (P.info? t).map (·.size)

def cParts (place : Nat → Option (Nat × Nat)) : List (Nat × Operand) → Option (List (Nat × Nat × Arg))
  | [] => some []
  | (i, x) :: r => (place i).bind fun p => (cArg x).bind fun y => (cParts place r).map ((p.1, p.2, y) :: ·)
end compile

/-! ### Evaluation -/
def Arg.ev (S : St) : Arg → AV
  | .tmp t => S.fr t
  | .c v => v

def AV.cells : AV → Option (List V1)
  | .one v => some [v]
  | .agg vs => some vs
  | _ => none

def upd {α β : Type} [DecidableEq α] (f : α → β) (a : α) (b : β) : α → β := fun x => if x = a then b else f x

theorem upd_same {α β : Type} [DecidableEq α] (f : α → β) (a : α) (b : β) : upd f a b a = b := by simp [upd]
theorem upd_ne {α β : Type} [DecidableEq α] (f : α → β) {a x : α} (b : β) (h : x ≠ a) : upd f a b x = f x := by simp [upd, h]

/-- What an operation does: its value, and the objects and counts behind it. -/
structure Eff where
  v : AV
  ob : Nm → Option Ob
  cnt : Nat → Nat

def St.val (S : St) (v : AV) : Eff := ⟨v, S.ob, S.cnt⟩

/-- A new object. -/
def St.new (S : St) (nm : Nat) (x : Ob) (v : AV) : Eff := ⟨v, upd S.ob (nm, S.cnt nm) (some x), upd S.cnt nm (S.cnt nm + 1)⟩

/-- As cells of a row: trees alone. -/
def V1.tree : V1 → Option C
  | .t x => some x
  | .nil => some (.sl 0 [])
  | _ => none

def trees : List V1 → Option (List V1)
  | [] => some []
  | v :: r => v.tree.bind fun x => (trees r).map (.t x :: ·)

def splice {α : Type} (l : List α) (off : Nat) (s : List α) : List α := l.take off ++ s ++ l.drop (off + s.length)

def fillV (S : St) : List (Nat × Nat × Arg) → List V1 → Option (List V1)
  | [], l => some l
  | (off, sz, x) :: r, l => match (x.ev S).cells with
    | some vs => if vs.length = sz ∧ off + sz ≤ l.length then fillV S r (splice l off vs) else none
    | none => none

/-- The object behind a pointer or a row, while it lives. -/
def St.live (S : St) (o : Nm) : Option Ob := match S.ob o with
  | some x => if x.live = true then some x else none
  | none => none

def rdAt (S : St) (sz : Nat) : AV → Option (List V1)
  | .one (.ptr o off) => match S.live o with
    | some x => if off + sz ≤ x.cells.length then some ((x.cells.drop off).take sz) else none
    | none => none
  | .one (.pro cs) => if sz ≤ cs.length then some ((cs.take sz).map .t) else none
  | _ => none

def binInt (op : BinOp) (k : IntKind) (a b : Int) : Option V1 := match op with
  | .add => some (.t (.int k (k.wrap (a + b))))
  | .sub => some (.t (.int k (k.wrap (a - b))))
  | .mul => some (.t (.int k (k.wrap (a * b))))
  | .eql => some (.t (.bool (a == b)))
  | .neq => some (.t (.bool (a != b)))
  | .lss => some (.t (.bool (decide (a < b))))
  | .leq => some (.t (.bool (decide (a ≤ b))))
  | .gtr => some (.t (.bool (decide (a > b))))
  | .geq => some (.t (.bool (decide (a ≥ b))))
  | .rem => if b = 0 then none else some (.t (.int k (a.tmod b)))
  | .quo => if b = 0 then none else some (.t (.int k (k.wrap (a.tdiv b))))
  | .and => some (.t (.int k (k.wrap (BitVec.ofInt k.bits a &&& BitVec.ofInt k.bits b).toNat)))
  | _ => none

/-- A shift's count may be of another kind. -/
def binInt2 (op : BinOp) (k : IntKind) (a : Int) (k' : IntKind) (b : Int) : Option V1 := match op with
  | .shr => if b < 0 then none else some (.t (.int k (a.fdiv (2 ^ min b.toNat k.bits))))
  | .shl => if b < 0 then none else some (.t (.int k (k.wrap (a * 2 ^ min b.toNat k.bits))))
  | op => if k = k' then binInt op k a b else none

/-- The cells that a slice leads to, and how many elements it has. -/
def sliceOf (S : St) : AV → Option (Nat × List V1)
  | .one (.t (.sl n cs)) => some (n, cs.map .t)
  | .one .nil => some (0, [])
  | .one (.row o) => match S.live o with
    | some x => if x.isRow = true then some (x.n, x.cells) else none
    | none => none
  | _ => none

def intsOf : List V1 → Option (List (IntKind × Int))
  | [] => some []
  | .t (.int k n) :: r => (intsOf r).map ((k, n) :: ·)
  | _ => none

/-- Slices are in it: such a row is not written again. -/
def nests : List V1 → Bool
  | [] => false
  | .t (.sl _ _) :: _ => true
  | _ :: r => nests r

def evOp (S : St) : MOp → Option Eff
  | .mv x => some (S.val (x.ev S))
  | .pick c a b => match c.ev S with
    | .one (.t (.bool t)) => some (S.val (if t then a.ev S else b.ev S))
    | _ => none
  | .alloc nm typ zero => some (S.new nm ⟨true, false, false, 0, 0, typ, zero⟩ (.one (.ptr (nm, S.cnt nm) 0)))
  | .box nm typ x => match (x.ev S).cells with
    | some vs => some (S.new nm ⟨true, false, false, 0, 0, typ, vs⟩ (.one (.ptr (nm, S.cnt nm) 0)))
    | none => none
  | .build zero parts => match fillV S parts zero with
    | some vs => some (S.val (.agg vs))
    | none => none
  | .mkrow nm typ esz len zero parts => match fillV S parts zero with
    | some vs => match trees vs with
      | some ts => if len = 0 then some (S.val (.one .nil)) else some (S.new nm ⟨true, true, nests ts, esz, len, typ, ts⟩ (.one (.row (nm, S.cnt nm))))
      | none => none
    | none => none
  | .load agg sz a => match rdAt S sz (a.ev S) with
    | some vs => if agg then some (S.val (.agg vs)) else match vs with
      | [v] => some (S.val (.one v))
      | _ => none
    | none => none
  | .store sz a x => match a.ev S, (x.ev S).cells with
    | .one (.ptr o off), some vs => match S.live o with
      | some y => if y.frz = false ∧ vs.length = sz ∧ off + sz ≤ y.cells.length then
          (if y.isRow then match trees vs with
            | some ts => some ⟨.undef, upd S.ob o (some { y with cells := splice y.cells off ts }), S.cnt⟩
            | none => none
          else some ⟨.undef, upd S.ob o (some { y with cells := splice y.cells off vs }), S.cnt⟩)
        else none
      | none => none
    | _, _ => none
  | .nilck x => match x.ev S with
    | .one (.ptr o off) => some (S.val (.one (.ptr o off)))
    | .one (.pro cs) => some (S.val (.one (.pro cs)))
    | .one (.fn f caps) => some (S.val (.one (.fn f caps)))
    | _ => none
  | .bin op x y => match x.ev S, y.ev S with
    | .one (.t (.int k a)), .one (.t (.int k' b)) => match binInt2 op k a k' b with
      | some v => some (S.val (.one v))
      | none => none
    | _, _ => none
  | .eqS neg n x y => match x.ev S, y.ev S with
    | .agg xs, .agg ys => match intsOf xs, intsOf ys with
      | some p, some q => if p.length = n ∧ p.map (·.1) = q.map (·.1) ∧ n ≠ 0 then some (S.val (.one (.t (.bool (if neg then !decide (p.map (·.2) = q.map (·.2)) else decide (p.map (·.2) = q.map (·.2))))))) else none
      | _, _ => none
    | .one (.t (.bool a)), .one (.t (.bool b)) => if n = 0 then some (S.val (.one (.t (.bool (if neg then !(a == b) else a == b))))) else none
    | _, _ => none
  | .not x => match x.ev S with
    | .one (.t (.bool b)) => some (S.val (.one (.t (.bool (!b)))))
    | _ => none
  | .conv k x => match x.ev S with
    | .one (.t (.int _ n)) => some (S.val (.one (.t (.int k (k.wrap n)))))
    | _ => none
  | .fieldA off x => match x.ev S with
    | .one (.ptr o p) => some (S.val (.one (.ptr o (p + off))))
    | .one (.pro cs) => some (S.val (.one (.pro (cs.drop off))))
    | _ => none
  | .idxA esz x i => match i.ev S with
    | .one (.t (.int _ j)) => match x.ev S with
      | .one (.t (.sl n cs)) => if 0 ≤ j ∧ j < n ∧ j.toNat * esz < cs.length then some (S.val (.one (.pro (cs.drop (j.toNat * esz))))) else none
      | .one (.row o) => match S.live o with
        | some y => if 0 ≤ j ∧ j < y.n then some (S.val (.one (.ptr o (j.toNat * esz)))) else none
        | none => none
      | _ => none
    | _ => none
  | .idxArr len esz x i => match i.ev S with
    | .one (.t (.int _ j)) => if 0 ≤ j ∧ j < len then match x.ev S with
        | .one (.ptr o p) => some (S.val (.one (.ptr o (p + j.toNat * esz))))
        | .one (.pro cs) => some (S.val (.one (.pro (cs.drop (j.toNat * esz)))))
        | _ => none
      else none
    | _ => none
  | .extract x i => match x.ev S with
    | .tup ss => match ss[i]? with
      | some (true, vs) => some (S.val (.agg vs))
      | some (false, [v]) => some (S.val (.one v))
      | _ => none
    | _ => none
  | .len x => match sliceOf S (x.ev S) with
    | some (n, _) => some (S.val (.one (.t (.int .i64 n))))
    | none => none
  | .minmax isMax x y => match x.ev S, y.ev S with
    | .one (.t (.int k a)), .one (.t (.int k' b)) => if k = k' then some (S.val (.one (.t (.int k (if isMax then max a b else min a b))))) else none
    | _, _ => none
  | .mkfn f caps => match caps.mapM (fun c => match c.ev S with | .one (.ptr o 0) => some o | _ => none) with
    | some l => some (S.val (.one (.fn f l)))
    | none => none
  | .make nm typ esz bytes zero l c => match l.ev S, c.ev S with
    | .one (.t (.int _ a)), .one (.t (.int _ b)) =>
      if a = b ∧ 0 ≤ a ∧ a.toNat * bytes ≤ 140737488355328 ∧ a ≤ 9223372036854775807 then
        some (S.new nm ⟨true, true, false, esz, a.toNat, typ, (List.replicate a.toNat zero).flatten⟩ (.one (.row (nm, S.cnt nm))))
      else none
    | _, _ => none
  | .append nm typ esz bytes x y => match sliceOf S (y.ev S) with
    | some (k, news) => match trees news with
      | some ts => match x.ev S with
        | .one .nil => if k * bytes ≤ 140737488355328 ∧ ts.length = k * esz ∧ k ≤ 9223372036854775807 then
            (if k = 0 then some (S.val (.one .nil)) else some (S.new nm ⟨true, true, false, esz, k, typ, ts⟩ (.one (.row (nm, S.cnt nm)))))
          else none
        | .one (.row o) => match S.live o with
          | some b => if b.isRow = true ∧ b.frz = false ∧ b.esz = esz ∧ b.typ = typ ∧ (b.n + k) * bytes ≤ 140737488355328 ∧ ts.length = k * esz ∧ b.n + k ≤ 9223372036854775807 then
              some ⟨.one (.row (nm, S.cnt nm)), upd (upd S.ob o (some { b with live := false })) (nm, S.cnt nm) (some ⟨true, true, false, esz, b.n + k, typ, b.cells ++ ts⟩), upd S.cnt nm (S.cnt nm + 1)⟩
            else none
          | none => none
        | _ => none
      | none => none
    | none => none
  | .isnil .. => none
  | .call .. => none
end Go.Proofs.YthcnpnogfblkcaaGreat.Abs

/- What one operation does to an abstract state, it does to a world. -/
namespace Go.Proofs.YthcnpnogfblkcaaGreat.Abs
open Go.RowKit
set_option linter.unusedVariables false

/-- The operation yields a value (or skips), and what the effect says holds behind it. -/
def Goes (P : Program) (o : Oper) (a : Act) (w w0 : World) (Zc : Nat → Prop) (m : Map) (S : St) (E : Eff) : Prop :=
  ∃ nx v w' m', (execOp a.eval o).run P w = .ok nx w' ∧ ((nx = .value v) ∨ (nx = .skip ∧ v = undef)) ∧ HR w0 Zc m' E.ob E.cnt w' ∧
    Ext w (vol m S.ob Zc) m S.ob w' (vol m' E.ob Zc) m' E.ob ∧ AVR w' (vol m' E.ob Zc) m' E.ob E.v v

theorem Ext.refl (w : World) (Z : Nat → Prop) (m : Map) (ob : Nm → Option Ob) : Ext w Z m ob w Z m ob :=
  ⟨Step.refl w Z, fun _ _ => rfl, fun _ _ => rfl, fun o x h => ⟨x, h, rfl, rfl⟩⟩

theorem goes_val {P : Program} {o : Oper} {a : Act} {w w0 : World} {I : Ini} {Zc : Nat → Prop} {N : Nat} {m : Map} {S : St} {v : AV} {u : Value}
    (s : Sim w0 I Zc N m S a w) (hr : (execOp a.eval o).run P w = .ok (.value u) w) (hv : AVR w (vol m S.ob Zc) m S.ob v u) : Goes P o a w w0 Zc m S (S.val v) :=
  ⟨_, u, w, m, hr, .inl rfl, s.heap, Ext.refl .., hv⟩

theorem V1R.one {w : World} {Z : Nat → Prop} {m : Map} {ob : Nm → Option Ob} {x : V1} {v : Value} (h : V1R w Z m ob x v) : v.oneCell' = true := by
  cases x with
  | t x => exact CR.one h
  | nil => obtain ⟨A, rfl⟩ := h; rfl
  | row o => obtain ⟨x, _, _, rfl⟩ := h; rfl
  | ptr o off => rw [h.2]; rfl
  | pro cs => obtain ⟨ad, rfl, _⟩ := h; rfl
  | fn f caps => rw [h.2]; rfl

theorem cells_one {v : Value} (h : v.oneCell' = true) : v.cells = #[v] := by cases v <;> simp_all [Value.oneCell', Value.cells]

theorem v1Of_spec {w : World} {Z : Nat → Prop} {m : Map} {ob : Nm → Option Ob} {v : Value} {x : V1} (h : v1Of v = some x) : V1R w Z m ob x v := by
  unfold v1Of at h
  split at h
  · injection h with h; subst h; exact .int _ _
  · injection h with h; subst h; exact .bool _
  · injection h with h; subst h; exact ⟨none, rfl⟩
  · cases h

theorem v1s_spec {w : World} {Z : Nat → Prop} {m : Map} {ob : Nm → Option Ob} : ∀ {l : List Value} {xs : List V1}, v1s l = some xs → L1R w Z m ob xs l
  | [], xs, h => by
    injection h with h; subst h
    exact ⟨rfl, fun j v u hv => by simp at hv⟩
  | v :: r, xs, h => by
    simp only [v1s, Option.bind_eq_some_iff, Option.map_eq_some_iff] at h
    obtain ⟨x, hx, ys, hy, rfl⟩ := h
    have ih := v1s_spec (w := w) (Z := Z) (m := m) (ob := ob) hy
    refine ⟨by simp [ih.1], fun j a u ha hu => ?_⟩
    cases j with
    | zero =>
      simp at ha hu
      subst ha hu
      exact v1Of_spec hx
    | succ j => exact ih.2 j a u (by simpa using ha) (by simpa using hu)

theorem cVal_spec {w : World} {Z : Nat → Prop} {m : Map} {ob : Nm → Option Ob} {v : Value} {x : AV} (h : cVal v = some x) : AVR w Z m ob x v := by
  unfold cVal at h
  split at h
  · simp only [Option.map_eq_some_iff] at h
    obtain ⟨l, hl, rfl⟩ := h
    exact ⟨_, rfl, v1s_spec hl⟩
  · simp only [Option.map_eq_some_iff] at h
    obtain ⟨l, hl, rfl⟩ := h
    exact v1Of_spec hl

theorem arg_spec {w w0 : World} {I : Ini} {Zc : Nat → Prop} {N : Nat} {m : Map} {S : St} {a : Act} (s : Sim w0 I Zc N m S a w) {x : Operand} {y : Arg} (h : cArg x = some y) :
    AVR w (vol m S.ob Zc) m S.ob (y.ev S) (a.eval x) := by
  cases x with
  | tmp t =>
    simp only [cArg] at h
    injection h with h; subst h
    exact s.fr t
  | const v =>
    simp only [cArg, Option.map_eq_some_iff] at h
    obtain ⟨l, hl, rfl⟩ := h
    exact cVal_spec hl
  | global g => cases h
  | func f =>
    simp only [cArg] at h
    injection h with h; subst h
    exact ⟨fun o ho => (by cases ho), rfl⟩

theorem cells_spec {w : World} {Z : Nat → Prop} {m : Map} {ob : Nm → Option Ob} {x : AV} {v : Value} {vs : List V1} (h : AVR w Z m ob x v) (hc : x.cells = some vs) :
    L1R w Z m ob vs v.cells.toList := by
  cases x with
  | one x =>
    injection hc with hc; subst hc
    rw [cells_one (V1R.one h)]
    refine ⟨rfl, fun j a u ha hu => ?_⟩
    cases j with
    | zero => simp at ha hu; subst ha hu; exact h
    | succ j => simp at ha
  | agg l =>
    injection hc with hc; subst hc
    obtain ⟨us, rfl, hl⟩ := h
    exact hl
  | tup l => cases hc
  | undef => cases hc

theorem L1R.ones {w : World} {Z : Nat → Prop} {m : Map} {ob : Nm → Option Ob} {xs : List V1} {us : List Value} (h : L1R w Z m ob xs us) : ∀ u ∈ us, u.oneCell' = true := by
  intro u hu
  obtain ⟨j, hj, rfl⟩ := List.mem_iff_getElem.1 hu
  have hx : j < xs.length := by rw [h.1]; exact hj
  exact V1R.one (h.2 j _ _ (List.getElem?_eq_getElem hx) (List.getElem?_eq_getElem hj))

/-! ### A new object -/
theorem HR.at_lt {w0 : World} {Zc : Nat → Prop} {m : Map} {ob : Nm → Option Ob} {cnt : Nat → Nat} {w : World} (h : HR w0 Zc m ob cnt w) {o : Nm} {x : Ob} (ho : ob o = some x) (hl : x.live = true) : m.at_ o < w.heap.size := by
  obtain ⟨_, arr, h1, _⟩ := h.obs o x ho hl
  exact (Array.getElem?_eq_some_iff.1 h1).1

theorem HR.size {w0 : World} {Zc : Nat → Prop} {m : Map} {ob : Nm → Option Ob} {cnt : Nat → Nat} {w : World} (h : HR w0 Zc m ob cnt w) : w0.heap.size ≤ w.heap.size := h.below.size

def Map.set (m : Map) (o : Nm) (b c : Nat) : Map := ⟨upd m.at_ o b, upd m.cap o c⟩

/-- What a world that has one block more says: everything lives on. -/
theorem ext_new_at {w0 w w' : World} {Zc : Nat → Prop} {m : Map} {ob : Nm → Option Ob} {cnt : Nat → Nat} (h : HR w0 Zc m ob cnt w) (nm : Nat) (x : Ob) (c g0 : Nat) (hg0 : w.heap.size ≤ g0)
    (hw : ∀ b, b < w.heap.size → w'.heap[b]? = w.heap[b]?) (hsz : w.heap.size ≤ w'.heap.size) :
    Ext w (vol m ob Zc) m ob w' (vol (m.set (nm, cnt nm) g0 c) (upd ob (nm, cnt nm) (some x)) Zc) (m.set (nm, cnt nm) g0 c) (upd ob (nm, cnt nm) (some x)) := by
  have hn : ob (nm, cnt nm) = none := h.fresh nm _ (Nat.le_refl _)
  have hne : ∀ o, ob o ≠ none → o ≠ (nm, cnt nm) := fun o ho e => ho (e ▸ hn)
  refine ⟨⟨fun b _ hb => hw b hb, fun b hb hz => ?_, hsz⟩, fun o ho => upd_ne _ _ (hne o ho), fun o ho => upd_ne _ _ (hne o ho), fun o y ho => ⟨y, ?_, rfl, rfl⟩⟩
  · rcases hz with hz | ⟨o, y, ho, hl, hf, e⟩
    · exact .inl hz
    · by_cases e' : o = (nm, cnt nm)
      · subst e'
        simp only [Map.set, upd_same] at e
        omega
      · rw [upd_ne _ _ e'] at ho
        simp only [Map.set, upd_ne _ _ e'] at e
        exact .inr ⟨o, y, ho, hl, hf, e⟩
  · rw [upd_ne _ _ (hne o (by rw [ho]; simp))]
    exact ho

theorem hr_new_at {w0 w w' : World} {Zc : Nat → Prop} {m : Map} {ob : Nm → Option Ob} {cnt : Nat → Nat} (h : HR w0 Zc m ob cnt w) (nm : Nat) (x : Ob) (c g0 : Nat) (hg0 : w.heap.size ≤ g0)
    (hb : Below w.heap.size w w')
    (hx : x.live = true → ∃ arr : Array Value, w'.heap[g0]? = some (.cells arr x.typ (0, 0)) ∧
      (if x.isRow then arr.size = c * x.esz ∧ x.n ≤ c ∧ c ≤ maxLen ∧ x.cells.length = x.n * x.esz ∧ 0 < x.esz ∧ (∀ v ∈ x.cells, ∃ c, v = .t c) else arr.size = x.cells.length) ∧
      (∀ (j : Nat) v, x.cells[j]? = some v → ∃ u, arr[j]? = some u ∧ V1R w (vol m ob Zc) m ob v u)) :
    HR w0 Zc (m.set (nm, cnt nm) g0 c) (upd ob (nm, cnt nm) (some x)) (upd cnt nm (cnt nm + 1)) w' := by
  have e := ext_new_at (w' := w') h nm x c g0 hg0 hb.block hb.size
  have hn : ob (nm, cnt nm) = none := h.fresh nm _ (Nat.le_refl _)
  refine ⟨h.below.trans (hb.mono h.size), h.zc, fun n g hg => ?_, fun o y ho hl => ?_, fun o y o' y' ho hl ho' hl' he => ?_⟩
  · by_cases e1 : n = nm
    · subst e1
      rw [upd_same] at hg
      rw [upd_ne _ _ (by intro e2; injection e2; omega)]
      exact h.fresh n g (by omega)
    · rw [upd_ne _ _ e1] at hg
      rw [upd_ne _ _ (by intro e2; injection e2; exact e1 (by assumption))]
      exact h.fresh n g hg
  · by_cases e1 : o = (nm, cnt nm)
    · subst e1
      rw [upd_same] at ho
      injection ho with ho
      subst ho
      obtain ⟨arr, h1, h2, h3⟩ := hx hl
      refine ⟨by simp only [Map.set, upd_same]; exact Nat.le_trans h.size hg0, arr, by simp only [Map.set, upd_same]; exact h1, by simp only [Map.set, upd_same]; exact h2, fun j v hv => ?_⟩
      obtain ⟨u, g1, g2⟩ := h3 j v hv
      exact ⟨u, g1, V1R.one g2, V1R.ext e g2⟩
    · rw [upd_ne _ _ e1] at ho
      exact OR.ext e (by rw [ho]; simp) (hb.block _ (h.at_lt ho hl)) (h.obs o y ho hl)
  · by_cases e1 : o = (nm, cnt nm) <;> by_cases e2 : o' = (nm, cnt nm)
    · rw [e1, e2]
    · subst e1
      rw [upd_ne _ _ e2] at ho'
      simp only [Map.set, upd_same, upd_ne _ _ e2] at he
      have := h.at_lt ho' hl'
      omega
    · subst e2
      rw [upd_ne _ _ e1] at ho
      simp only [Map.set, upd_same, upd_ne _ _ e1] at he
      have := h.at_lt ho hl
      omega
    · rw [upd_ne _ _ e1] at ho
      rw [upd_ne _ _ e2] at ho'
      simp only [Map.set, upd_ne _ _ e1, upd_ne _ _ e2] at he
      exact h.inj o y o' y' ho hl ho' hl' he

theorem ext_new {w0 w w' : World} {Zc : Nat → Prop} {m : Map} {ob : Nm → Option Ob} {cnt : Nat → Nat} (h : HR w0 Zc m ob cnt w) (nm : Nat) (x : Ob) (c : Nat)
    (hw : ∀ b, b < w.heap.size → w'.heap[b]? = w.heap[b]?) (hsz : w.heap.size ≤ w'.heap.size) :
    Ext w (vol m ob Zc) m ob w' (vol (m.set (nm, cnt nm) w.heap.size c) (upd ob (nm, cnt nm) (some x)) Zc) (m.set (nm, cnt nm) w.heap.size c) (upd ob (nm, cnt nm) (some x)) := ext_new_at h nm x c _ (Nat.le_refl _) hw hsz

theorem hr_new {w0 w w' : World} {Zc : Nat → Prop} {m : Map} {ob : Nm → Option Ob} {cnt : Nat → Nat} (h : HR w0 Zc m ob cnt w) (nm : Nat) (x : Ob) (c : Nat)
    (hb : Below w.heap.size w w')
    (hx : x.live = true → ∃ arr : Array Value, w'.heap[w.heap.size]? = some (.cells arr x.typ (0, 0)) ∧
      (if x.isRow then arr.size = c * x.esz ∧ x.n ≤ c ∧ c ≤ maxLen ∧ x.cells.length = x.n * x.esz ∧ 0 < x.esz ∧ (∀ v ∈ x.cells, ∃ c, v = .t c) else arr.size = x.cells.length) ∧
      (∀ (j : Nat) v, x.cells[j]? = some v → ∃ u, arr[j]? = some u ∧ V1R w (vol m ob Zc) m ob v u)) :
    HR w0 Zc (m.set (nm, cnt nm) w.heap.size c) (upd ob (nm, cnt nm) (some x)) (upd cnt nm (cnt nm + 1)) w' := hr_new_at h nm x c _ (Nat.le_refl _) hb hx

theorem alloc_new (w : World) (x : Obj) : (w.alloc x).heap[w.heap.size]? = some x := heap_alloc_new w x
theorem alloc_below (w : World) (x : Obj) : Below w.heap.size w (w.alloc x) := (Below.refl _ w).alloc (Nat.le_refl _) x

/-- An operation that lays a new block with these cells. -/
theorem goes_new {P : Program} {o : Oper} {a : Act} {w w0 : World} {I : Ini} {Zc : Nat → Prop} {N : Nat} {m : Map} {S : St} {u : Value}
    (s : Sim w0 I Zc N m S a w) (nm : Nat) (x : Ob) (v : AV) (c : Nat) (arr : Array Value)
    (hr : (execOp a.eval o).run P w = .ok (.value u) (w.alloc (.cells arr x.typ)))
    (h2 : if x.isRow then arr.size = c * x.esz ∧ x.n ≤ c ∧ c ≤ maxLen ∧ x.cells.length = x.n * x.esz ∧ 0 < x.esz ∧ (∀ v ∈ x.cells, ∃ c, v = .t c) else arr.size = x.cells.length)
    (h3 : ∀ (j : Nat) v, x.cells[j]? = some v → ∃ u, arr[j]? = some u ∧ V1R w (vol m S.ob Zc) m S.ob v u)
    (hu : (v = .one (.ptr (nm, S.cnt nm) 0) ∧ u = .pointer (some ⟨w.heap.size, 0, none⟩)) ∨ (x.isRow = true ∧ v = .one (.row (nm, S.cnt nm)) ∧ u = .slice (some ⟨w.heap.size, 0, none⟩) x.n c)) :
    Goes P o a w w0 Zc m S (S.new nm x v) := by
  refine ⟨_, u, _, m.set (nm, S.cnt nm) w.heap.size c, hr, .inl rfl, hr_new s.heap nm x c (alloc_below w _) (fun _ => ⟨arr, alloc_new w _, h2, h3⟩),
    ext_new s.heap nm x c (fun b hb => (alloc_below w _).block b hb) (alloc_below w _).size, ?_⟩
  rcases hu with ⟨rfl, rfl⟩ | ⟨hrow, rfl, rfl⟩
  · exact ⟨by simp [St.new, upd_same], by simp [Map.set, upd_same]⟩
  · exact ⟨x, by simp [St.new, upd_same], hrow, by simp [Map.set, upd_same]⟩

/-- An operation that lays a new block of no cell, which nobody needs. -/
theorem goes_nil {P : Program} {o : Oper} {a : Act} {w w0 w' : World} {I : Ini} {Zc : Nat → Prop} {N : Nat} {m : Map} {S : St} {A : Option Addr}
    (s : Sim w0 I Zc N m S a w) (hr : (execOp a.eval o).run P w = .ok (.value (.slice A 0 0)) w') (hb : Below w.heap.size w w') : Goes P o a w w0 Zc m S (S.val (.one .nil)) := by
  have ex : Ext w (vol m S.ob Zc) m S.ob w' (vol m S.ob Zc) m S.ob := ⟨⟨fun q _ hq => hb.block q hq, fun _ _ h => h, hb.size⟩, fun _ _ => rfl, fun _ _ => rfl, fun p y h => ⟨y, h, rfl, rfl⟩⟩
  refine ⟨_, _, w', m, hr, .inl rfl, ⟨s.heap.below.trans (hb.mono s.heap.size), s.heap.zc, s.heap.fresh, fun p y hp hl => ?_, s.heap.inj⟩, ex, ⟨A, rfl⟩⟩
  exact OR.ext ex (by rw [show S.ob p = some y from hp]; simp) (hb.block _ (s.heap.at_lt hp hl)) (s.heap.obs p y hp hl)

theorem live_spec {S : St} {o : Nm} {x : Ob} (h : S.live o = some x) : S.ob o = some x ∧ x.live = true := by
  unfold St.live at h
  split at h
  · rename_i y hy
    split at h
    · rename_i hl
      injection h with h
      subst h
      exact ⟨hy, hl⟩
    · cases h
  · cases h

theorem trees_spec {w : World} {Z : Nat → Prop} {m : Map} {ob : Nm → Option Ob} : ∀ {vs ts : List V1} {us : List Value}, trees vs = some ts → L1R w Z m ob vs us →
    L1R w Z m ob ts us ∧ ∀ v ∈ ts, ∃ c, v = .t c
  | [], ts, us, h, hl => by
    injection h with h; subst h
    exact ⟨hl, fun v hv => by cases hv⟩
  | v :: r, ts, us, h, hl => by
    simp only [trees, Option.bind_eq_some_iff, Option.map_eq_some_iff] at h
    obtain ⟨x, hx, ys, hy, rfl⟩ := h
    cases us with
    | nil => exact absurd hl.1 (by simp)
    | cons u us =>
      have ih := trees_spec (w := w) (Z := Z) (m := m) (ob := ob) (us := us) hy ⟨by simpa using hl.1, fun j a b ha hb => hl.2 (j + 1) a b (by simpa using ha) (by simpa using hb)⟩
      refine ⟨⟨by simpa using ih.1.1, fun j a b ha hb => ?_⟩, fun a ha => ?_⟩
      · cases j with
        | zero =>
          simp at ha hb
          subst ha hb
          have h0 := hl.2 0 v u rfl rfl
          cases v with
          | t c => injection hx with hx; subst hx; exact h0
          | nil =>
            injection hx with hx; subst hx
            obtain ⟨A, rfl⟩ : ∃ A, u = .slice A 0 0 := h0
            exact .sl 0 0 [] A (fun _ => default) (Nat.le_refl _) (fun h => by simp at h) (fun j c h => by simp at h)
          | row o => cases hx
          | ptr o off => cases hx
          | pro cs => cases hx
          | fn f caps => cases hx
        | succ j => exact ih.1.2 j a b (by simpa using ha) (by simpa using hb)
      · rcases List.mem_cons.1 ha with rfl | ha
        · exact ⟨_, rfl⟩
        · exact ih.2 a ha
end Go.Proofs.YthcnpnogfblkcaaGreat.Abs

/- Go's operations, compiled, do what the small code says: operations on values, on pointers and on cells. -/
namespace Go.Proofs.YthcnpnogfblkcaaGreat.Abs
open Go.RowKit
set_option linter.unusedVariables false
set_option linter.unusedSimpArgs false

section ops
variable {P : Program} {o : Oper} {a : Act} {w w0 : World} {I : Ini} {Zc : Nat → Prop} {N : Nat} {m : Map} {S : St}

theorem go_mv {x : Operand} {y : Arg} (s : Sim w0 I Zc N m S a w) (ho : o.op = .move x ∨ o.op = .assign x) (hy : cArg x = some y) : Goes P o a w w0 Zc m S (S.val (y.ev S)) := by
  refine goes_val s (u := a.eval x) ?_ (arg_spec s hy)
  rcases ho with ho | ho <;> simp [execOp, ho]

theorem one_bool {w : World} {Z : Nat → Prop} {m : Map} {ob : Nm → Option Ob} {b : Bool} {v : Value} (h : AVR w Z m ob (.one (.t (.bool b))) v) : v = .bool b := by
  cases (show CR w Z (.bool b) v from h)
  rfl
theorem one_int {w : World} {Z : Nat → Prop} {m : Map} {ob : Nm → Option Ob} {k : IntKind} {n : Int} {v : Value} (h : AVR w Z m ob (.one (.t (.int k n))) v) : v = .int k n := by
  cases (show CR w Z (.int k n) v from h)
  rfl
theorem mk_bool {w : World} {Z : Nat → Prop} {m : Map} {ob : Nm → Option Ob} (b : Bool) : AVR w Z m ob (.one (.t (.bool b))) (.bool b) := CR.bool b
theorem mk_int {w : World} {Z : Nat → Prop} {m : Map} {ob : Nm → Option Ob} (k : IntKind) (n : Int) : AVR w Z m ob (.one (.t (.int k n))) (.int k n) := CR.int k n

theorem go_pick {c x y : Operand} {c' x' y' : Arg} {t : Bool} (s : Sim w0 I Zc N m S a w) (ho : o.op = .pick c x y) (hc : cArg c = some c') (hx : cArg x = some x') (hy : cArg y = some y')
    (ht : c'.ev S = .one (.t (.bool t))) : Goes P o a w w0 Zc m S (S.val (if t then x'.ev S else y'.ev S)) := by
  have h := arg_spec s hc
  rw [ht] at h
  refine goes_val s (u := if t then a.eval x else a.eval y) ?_ ?_
  · simp [execOp, ho, one_bool h, asBool]
  · cases t
    · exact arg_spec s hy
    · exact arg_spec s hx

theorem zeroOf_spec {t : TypeId} {l : List V1} (h : zeroOf P t = some l) : ∃ i z, P.info? t = some i ∧ i.zero = some z ∧ v1s z.cells.toList = some l := by
  simp only [zeroOf, Option.bind_eq_some_iff] at h
  obtain ⟨i, hi, z, hz, hl⟩ := h
  exact ⟨i, z, hi, hz, hl⟩

theorem go_alloc {e nm : Nat} {z : List V1} (s : Sim w0 I Zc N m S a w) (ho : o.op = .alloc e) (hz : zeroOf P e = some z) :
    Goes P o a w w0 Zc m S (S.new nm ⟨true, false, false, 0, 0, e, z⟩ (.one (.ptr (nm, S.cnt nm) 0))) := by
  obtain ⟨i, zv, hi, hzv, hl⟩ := zeroOf_spec hz
  have hc := v1s_spec (w := w) (Z := vol m S.ob Zc) (m := m) (ob := S.ob) hl
  refine goes_new s nm _ _ 0 zv.cells (u := .pointer (some ⟨w.heap.size, 0, none⟩)) ?_ ?_ (fun j v hv => ?_) (.inl ⟨rfl, rfl⟩)
  · simp [execOp, ho, Instr.alloc, zeroValue, typeInfo, hi, hzv, newVar, newRow, Result.andThen]
  · simpa using hc.1.symm
  · have hj : j < zv.cells.toList.length := by rw [← hc.1]; exact (List.getElem?_eq_some_iff.1 hv).1
    exact ⟨zv.cells.toList[j], by simp at hj; simp [hj], hc.2 j v _ hv (List.getElem?_eq_getElem hj)⟩

theorem go_box {e nm : Nat} {x : Operand} {y : Arg} {vs : List V1} (s : Sim w0 I Zc N m S a w) (ho : o.op = .box e x) (hy : cArg x = some y) (hv : (y.ev S).cells = some vs) :
    Goes P o a w w0 Zc m S (S.new nm ⟨true, false, false, 0, 0, e, vs⟩ (.one (.ptr (nm, S.cnt nm) 0))) := by
  have hc := cells_spec (arg_spec s hy) hv
  refine goes_new s nm _ _ 0 (a.eval x).cells (u := .pointer (some ⟨w.heap.size, 0, none⟩)) ?_ ?_ (fun j v hv => ?_) (.inl ⟨rfl, rfl⟩)
  · simp [execOp, ho, Instr.box, newVar, newRow, Result.andThen]
  · simpa using hc.1.symm
  · have hj : j < (a.eval x).cells.toList.length := by rw [← hc.1]; exact (List.getElem?_eq_some_iff.1 hv).1
    exact ⟨(a.eval x).cells.toList[j], by simp at hj; simp [hj], hc.2 j v _ hv (List.getElem?_eq_getElem hj)⟩

/-! ### Aggregates -/
theorem splice_length {α : Type} (l : List α) (off : Nat) (s : List α) (h : off + s.length ≤ l.length) : (splice l off s).length = l.length := by
  simp only [splice, List.length_append, List.length_take, List.length_drop]
  omega

theorem splice_get {α : Type} (l : List α) (off : Nat) (s : List α) (h : off + s.length ≤ l.length) (j : Nat) :
    (splice l off s)[j]? = if off ≤ j ∧ j < off + s.length then s[j - off]? else l[j]? := by
  have hlen : (l.take off).length = off := by rw [List.length_take]; omega
  rw [splice, List.append_assoc, List.getElem?_append, hlen]
  split
  · rw [if_neg (by omega), List.getElem?_take, if_pos (by omega)]
  · rw [List.getElem?_append]
    split
    · rw [if_pos (by omega)]
    · rw [if_neg (by omega), List.getElem?_drop]
      congr 1
      omega

theorem L1R.splice {w : World} {Z : Nat → Prop} {m : Map} {ob : Nm → Option Ob} {l vs : List V1} {us ns : List Value} (h : L1R w Z m ob l us) (h2 : L1R w Z m ob vs ns) {off : Nat} (hf : off + vs.length ≤ l.length) :
    L1R w Z m ob (splice l off vs) (Abs.splice us off ns) := by
  have e1 := h.1
  have e2 := h2.1
  refine ⟨by rw [splice_length _ _ _ hf, splice_length _ _ _ (by omega)]; exact h.1, fun j v u hv hu => ?_⟩
  rw [splice_get _ _ _ hf] at hv
  rw [splice_get _ _ _ (by omega)] at hu
  split at hv
  · rw [if_pos (by omega)] at hu
    exact h2.2 _ v u hv hu
  · rw [if_neg (by omega)] at hu
    exact h.2 _ v u hv hu

theorem setFold_spec : ∀ (vs : List Value) (i off : Nat) (l : Array Value), off + i + vs.length ≤ l.size →
    (((vs.zipIdx i).foldl (fun cs (c, j) => cs.setIfInBounds (off + j) c) l)).toList = Abs.splice l.toList (off + i) vs
  | [], i, off, l, h => by simp [Abs.splice]
  | v :: r, i, off, l, h => by
    simp only [List.length_cons] at h
    rw [List.zipIdx_cons, List.foldl_cons, setFold_spec r (i + 1) off _ (by simp; omega)]
    apply List.ext_getElem?
    intro j
    rw [splice_get _ _ _ (by simp; omega), splice_get _ _ _ (by simp; omega)]
    simp only [List.length_cons, Array.toList_setIfInBounds]
    by_cases h1 : off + (i + 1) ≤ j ∧ j < off + (i + 1) + r.length
    · rw [if_pos h1, if_pos (by omega)]
      rw [show j - (off + i) = (j - (off + (i + 1))) + 1 by omega]
      rfl
    · rw [if_neg h1]
      by_cases h2 : j = off + i
      · subst h2
        rw [if_pos (by omega), List.getElem?_set_self (by simp; omega)]
        simp
      · rw [if_neg (by omega), List.getElem?_set_ne (by omega)]

theorem fill_spec {w : World} {Z : Nat → Prop} (hw : Sim w0 I Zc N m S a w) (place : Nat → Option (Nat × Nat)) :
    ∀ (l : List (Nat × Operand)) (ps : List (Nat × Nat × Arg)) (z vs : List V1) (cells : Array Value), cParts place l = some ps → fillV S ps z = some vs →
      L1R w (vol m S.ob Zc) m S.ob z cells.toList → ∃ out, Instr.fill place cells (l.map fun (i, x) => (i, a.eval x)) = some out ∧ L1R w (vol m S.ob Zc) m S.ob vs out.toList
  | [], ps, z, vs, cells, h1, h2, h3 => by
    injection h1 with h1; subst h1
    injection h2 with h2; subst h2
    exact ⟨cells, rfl, h3⟩
  | (i, x) :: r, ps, z, vs, cells, h1, h2, h3 => by
    simp only [cParts, Option.bind_eq_some_iff, Option.map_eq_some_iff] at h1
    obtain ⟨p, hp, y, hy, ps', hps, rfl⟩ := h1
    simp only [fillV] at h2
    split at h2
    · rename_i vx hvx
      split at h2
      · rename_i hc
        have hl := cells_spec (arg_spec hw hy) hvx
        have e3 := h3.1
        have e4 := hl.1
        have hsz : (a.eval x).cells.size = p.2 := by rw [← Array.length_toList, ← hl.1]; exact hc.1
        have hcs : cells.size = z.length := by rw [← Array.length_toList]; exact h3.1.symm
        have ih := fill_spec (Z := Z) hw place r ps' _ vs (((a.eval x).cells.zipIdx.foldl (fun cs (c, j) => cs.setIfInBounds (p.1 + j) c) cells)) hps h2 (by
          have := setFold_spec (a.eval x).cells.toList 0 p.1 cells (by simp; omega)
          simp only [Nat.add_zero] at this
          rw [← Array.foldl_toList, Array.toList_zipIdx, this]
          exact h3.splice hl (by omega))
        obtain ⟨out, g1, g2⟩ := ih
        refine ⟨out, ?_, g2⟩
        obtain ⟨p1, p2⟩ := p
        simp only [List.map_cons, Instr.fill, hp]
        simp only at hsz hc
        rw [if_neg (by simp; omega)]
        exact g1
      · cases h2
    · cases h2

theorem go_build {t : TypeId} {parts : Array (Nat × Operand)} {z vs : List V1} {ps : List (Nat × Nat × Arg)} (s : Sim w0 I Zc N m S a w) (ho : o.op = .build t parts) (hz : zeroOf P t = some z)
    {fields : Array Field} {places : List (Nat × Nat)} (hu : P.underlying t = some (.struct fields))
    (hp : fields.toList.mapM (fun f => (P.info? f.type).map fun i => (f.offset, i.size)) = some places) (hps : cParts (places.toArray[·]?) parts.toList = some ps)
    (hv : fillV S ps z = some vs) : Goes P o a w w0 Zc m S (S.val (.agg vs)) := by
  obtain ⟨i, zv, hi, hzv, hl⟩ := zeroOf_spec hz
  obtain ⟨out, h1, h2⟩ := fill_spec (Z := fun _ => False) s _ _ _ _ _ zv.cells hps hv (v1s_spec hl)
  refine goes_val s (u := .agg out) ?_ ⟨out, rfl, h2⟩
  have hb : P.built t (parts.map fun (i, x) => (i, a.eval x)).toList = some out := by
    unfold Program.built
    simp only [hi, hu, hzv, hp, Array.toList_map]
    exact h1
  simp only [execOp, ho, Sem.run_bind, run_build w t _ out hb, Result.andThen_ok]
  rfl

theorem go_mkrow {t e len nm esz : Nat} {parts : Array (Nat × Operand)} {z vs ts : List V1} {ps : List (Nat × Nat × Arg)} (s : Sim w0 I Zc N m S a w) (ho : o.op = .buildSlice t len parts)
    (hu : P.underlying t = some (.slice e)) {i : TypeInfo} {zv : Value} (hi : P.info? e = some i) (hes : i.size = esz) (hpos : 0 < esz) (hzv : i.zero = some zv) (hzs : zv.cells.size = esz) (hmax : len * esz ≤ 2 ^ 24)
    (hz : v1s ((Array.range (len * esz)).map (zv.cells[· % zv.cells.size]!)).toList = some z)
    (hps : cParts (fun i => some (i * esz, esz)) parts.toList = some ps) (hv : fillV S ps z = some vs) (hts : trees vs = some ts) :
    Goes P o a w w0 Zc m S (if len = 0 then S.val (.one .nil) else S.new nm ⟨true, true, nests ts, esz, len, e, ts⟩ (.one (.row (nm, S.cnt nm)))) := by
  subst hes
  obtain ⟨out, h1, h2⟩ := fill_spec (Z := fun _ => False) s _ _ _ _ _ _ hps hv (v1s_spec hz)
  have h3 := trees_spec hts h2
  have hlen : ts.length = len * i.size := by
    have g : ∀ (ps : List (Nat × Nat × Arg)) (z vs : List V1), fillV S ps z = some vs → vs.length = z.length := by
      intro ps
      induction ps with
      | nil => intro z vs h; injection h with h; rw [h]
      | cons p r ih =>
        intro z vs h
        obtain ⟨p1, p2, x⟩ := p
        simp only [fillV] at h
        split at h
        · split at h
          · rename_i hc
            rw [ih _ _ h, splice_length _ _ _ (by omega)]
          · cases h
        · cases h
    have := g _ _ _ hv
    have hz1 := (v1s_spec (w := w) (Z := fun _ => False) (m := m) (ob := S.ob) hz).1
    have ht : ts.length = vs.length := by rw [h3.1.1, h2.1]
    simp at hz1
    omega
  have hrun : (execOp a.eval o).run P w = .ok (.value (.slice (some ⟨w.heap.size, 0, none⟩) len len)) (w.alloc (.cells out e)) := by
    have hf : Instr.fill (fun i_1 => some (i_1 * i.size, i.size)) ((Array.range (len * i.size)).map (zv.cells[· % zv.cells.size]!)) (parts.map fun (i, x) => (i, a.eval x)).toList = some out := by
      rw [Array.toList_map]; exact h1
    simp only [execOp, ho, Instr.buildSlice, Sem.run_bind, run_underlying hu, Result.andThen_ok, sizeOf, typeInfo, run_program, hi, Sem.run_pure]
    rw [if_neg (by omega)]
    simp only [Sem.run_bind, Sem.run_pure, Result.andThen_ok, zeroValue, typeInfo, run_program, hi, hzv]
    by_cases hl0 : len * i.size = 0
    · rw [hl0] at hf
      rw [if_pos hl0, hl0]
      simp only [Sem.run_bind, Sem.run_pure, Result.andThen_ok]
      have hf2 : Instr.fill (fun i_1 => some (i_1 * i.size, i.size)) ((Array.range 0).map (fun x => ((#[] : Array Value)[x % (#[] : Array Value).size]!))) (parts.map fun (i, x) => (i, a.eval x)).toList = some out := by
        have e : (Array.range 0).map (fun x => ((#[] : Array Value)[x % (#[] : Array Value).size]!)) = (Array.range 0).map (zv.cells[· % zv.cells.size]!) := by simp
        rw [e]; exact hf
      simp only [hf2, newRow, Sem.run_bind, run_newObj, Result.andThen_ok, Sem.run_pure]
      rfl
    · simp only [if_neg hl0, Sem.run_bind, run_program, hi, hzv, Sem.run_pure, Result.andThen_ok, hf, newRow, run_newObj]
      rfl
  by_cases hl0 : len = 0
  · subst hl0
    rw [if_pos rfl]
    exact goes_nil s hrun (alloc_below w _)
  rw [if_neg hl0]
  refine goes_new s nm _ _ len out (u := .slice (some ⟨w.heap.size, 0, none⟩) len len) hrun ?_ (fun j v hv => ?_) (.inr ⟨rfl, rfl, rfl⟩)
  · simp only [if_true]
    have e9 : out.size = ts.length := by rw [h3.1.1, Array.length_toList]
    refine ⟨by rw [e9]; exact hlen, Nat.le_refl _, ?_, hlen, hpos, h3.2⟩
    have : len ≤ len * i.size := Nat.le_mul_of_pos_right _ hpos
    simp only [maxLen]
    omega
  · have hj : j < out.toList.length := by rw [← h3.1.1]; exact (List.getElem?_eq_some_iff.1 hv).1
    exact ⟨out.toList[j], by simp at hj; simp [hj], h3.1.2 j v _ hv (List.getElem?_eq_getElem hj)⟩
end ops
end Go.Proofs.YthcnpnogfblkcaaGreat.Abs

/- Go's operations, compiled, do what the small code says: numbers, addresses, loads and stores. -/
namespace Go.Proofs.YthcnpnogfblkcaaGreat.Abs
open Go.RowKit
set_option linter.unusedVariables false
set_option linter.unusedSimpArgs false

section ops
variable {P : Program} {o : Oper} {a : Act} {w w0 : World} {I : Ini} {Zc : Nat → Prop} {N : Nat} {m : Map} {S : St}

/-- The cells behind a pointer. -/
theorem rd_spec {w : World} (s : Sim w0 I Zc N m S a w) {sz : Nat} {x : AV} {v : Value} {vs : List V1} (h : AVR w (vol m S.ob Zc) m S.ob x v) (hr : rdAt S sz x = some vs) :
    ∃ (ad : Addr) (us : List Value), v = .pointer (some ad) ∧ vs.length = sz ∧ L1R w (vol m S.ob Zc) m S.ob vs us ∧ ∀ (j : Nat) u, us[j]? = some u → w.cell? (ad.add j) = some u := by
  unfold rdAt at hr
  split at hr
  · rename_i ob off
    split at hr
    · rename_i x hx
      split at hr
      · rename_i hle
        injection hr with hr
        subst hr
        obtain ⟨hob, hlive⟩ := live_spec hx
        obtain ⟨hbase, arr, h1, h2, h3⟩ := s.heap.obs _ _ hob hlive
        obtain ⟨hne, rfl⟩ := h
        refine ⟨⟨m.at_ ob, off, none⟩, (arr.toList.drop off).take sz, rfl, by simp; omega, ⟨?_, fun j v u hv hu => ?_⟩, fun j u hu => ?_⟩
        · have hsz : off + sz ≤ arr.size := by
            rcases Nat.eq_zero_or_pos sz with e | e
            · subst e
              rcases Nat.eq_zero_or_pos off with e' | e'
              · omega
              · obtain ⟨u, g1, _⟩ := h3 (off - 1) x.cells[off - 1] (List.getElem?_eq_getElem (by omega))
                have := (Array.getElem?_eq_some_iff.1 g1).1
                omega
            · obtain ⟨u, g1, _⟩ := h3 (off + sz - 1) x.cells[off + sz - 1] (List.getElem?_eq_getElem (by omega))
              have := (Array.getElem?_eq_some_iff.1 g1).1
              omega
          simp only [List.length_take, List.length_drop, Array.length_toList]
          omega
        · rw [List.getElem?_take] at hv hu
          split at hv
          · rename_i hj
            rw [if_pos hj] at hu
            rw [List.getElem?_drop] at hv hu
            obtain ⟨u', g1, _, g3⟩ := h3 _ v hv
            rw [Array.getElem?_toList, g1] at hu
            injection hu with hu
            subst hu
            exact g3
          · cases hv
        · rw [List.getElem?_take] at hu
          split at hu
          · rw [List.getElem?_drop, Array.getElem?_toList] at hu
            have hadd : (⟨m.at_ ob, off, none⟩ : Addr).add j = ⟨m.at_ ob, off + j, none⟩ := by unfold Addr.add; split <;> simp_all
            rw [hadd, cell_of_row w _ _ _ _ _ h1]
            exact hu
          · cases hu
      · cases hr
    · cases hr
  · rename_i cs
    split at hr
    · rename_i hle
      injection hr with hr
      subst hr
      obtain ⟨ad, rfl, hz, hc⟩ := h
      have hex : ∀ j : Nat, ∃ u, j < cs.length → w.cell? (ad.add j) = some u ∧ ∀ c, cs[j]? = some c → CR w (vol m S.ob Zc) c u := by
        intro j
        by_cases hj : j < cs.length
        · obtain ⟨u, g1, g2⟩ := hc j cs[j] (List.getElem?_eq_getElem hj)
          exact ⟨u, fun _ => ⟨g1, fun c hcc => by rw [List.getElem?_eq_getElem hj] at hcc; injection hcc with hcc; subst hcc; exact g2⟩⟩
        · exact ⟨default, fun h => absurd h hj⟩
      let f : Nat → Value := fun j => (hex j).choose
      have hf : ∀ j, j < cs.length → w.cell? (ad.add j) = some (f j) ∧ ∀ c, cs[j]? = some c → CR w (vol m S.ob Zc) c (f j) := fun j => (hex j).choose_spec
      refine ⟨ad, (List.range sz).map f, rfl, by simp; omega, ⟨by simp; omega, fun j v u hv hu => ?_⟩, fun j u hu => ?_⟩
      · simp only [List.getElem?_map, List.getElem?_take, Option.map_eq_some_iff] at hv
        obtain ⟨c, hcc, rfl⟩ := hv
        split at hcc
        · rename_i hj
          simp [List.getElem?_range hj] at hu
          subst hu
          exact (hf j (by omega)).2 c hcc
        · cases hcc
      · simp only [List.getElem?_map, Option.map_eq_some_iff] at hu
        obtain ⟨q, hq, rfl⟩ := hu
        obtain ⟨h1, rfl⟩ := List.getElem?_eq_some_iff.1 hq
        simp at h1 ⊢
        exact (hf j (by omega)).1
    · cases hr
  · cases hr

theorem run_isAgg_of {t : TypeId} {b : Bool} (h : aggB P t = some b) (w : World) : (isAgg t).run P w = .ok b w := by
  unfold aggB at h
  cases hu : P.underlying t with
  | none => simp [hu] at h
  | some d =>
    simp only [isAgg, Sem.run_bind, run_underlying hu, Result.andThen_ok]
    cases d <;> simp [hu] at h <;> subst h <;> rfl

theorem size_spec {t : TypeId} {n : Nat} (h : sizeB P t = some n) (w : World) : (sizeOf t).run P w = .ok n w := by
  simp only [sizeB, Option.map_eq_some_iff] at h
  obtain ⟨i, hi, rfl⟩ := h
  simp [sizeOf, typeInfo, hi]

theorem go_load_agg {t : TypeId} {x : Operand} {y : Arg} {sz : Nat} {vs : List V1} (s : Sim w0 I Zc N m S a w) (ho : o.op = .load t x) (hy : cArg x = some y) (hb : aggB P t = some true) (hs : sizeB P t = some sz)
    (hr : rdAt S sz (y.ev S) = some vs) : Goes P o a w w0 Zc m S (S.val (.agg vs)) := by
  obtain ⟨ad, us, hv, hl, h2, h3⟩ := rd_spec s (arg_spec s hy) hr
  refine goes_val s (u := .agg us.toArray) ?_ ⟨us.toArray, rfl, by simpa using h2⟩
  have hlen : us.length = sz := by rw [← h2.1]; exact hl
  have hrun := run_loadCells_list (P := P) w ad us h3
  simp only [execOp, ho, Instr.loadAt, hv, Instr.sureAddr, loadVar, Sem.run_bind, Sem.run_pure, Result.andThen_ok, run_isAgg_of hb, if_true, size_spec hs, ← hlen, hrun]

theorem go_load_one {t : TypeId} {x : Operand} {y : Arg} {v1 : V1} (s : Sim w0 I Zc N m S a w) (ho : o.op = .load t x) (hy : cArg x = some y) (hb : aggB P t = some false)
    (hr : rdAt S 1 (y.ev S) = some [v1]) : Goes P o a w w0 Zc m S (S.val (.one v1)) := by
  obtain ⟨ad, us, hv, hl, h2, h3⟩ := rd_spec s (arg_spec s hy) hr
  match us, h2.1 with
  | [u], _ =>
    refine goes_val s (u := u) ?_ (h2.2 0 v1 u rfl rfl)
    have hc := h3 0 u rfl
    rw [show ad.add 0 = ad from rfl] at hc
    simp only [execOp, ho, Instr.loadAt, hv, Instr.sureAddr, loadVar, Sem.run_bind, Sem.run_pure, Result.andThen_ok, run_isAgg_of hb, Bool.false_eq_true, if_false, run_load, hc]

theorem go_store {t : TypeId} {ax x : Operand} {ay y : Arg} {sz off : Nat} {ob : Nm} {b : Ob} {vs ts : List V1} (s : Sim w0 I Zc N m S a w) (ho : o.op = .store t ax x) (hay : cArg ax = some ay) (hy : cArg x = some y)
    (hs : sizeB P t = some sz) (hpe : ay.ev S = .one (.ptr ob off)) (hv : (y.ev S).cells = some vs) (hb : S.live ob = some b) (hf : b.frz = false) (hl : vs.length = sz) (hfit : off + sz ≤ b.cells.length)
    (hts : if b.isRow then trees vs = some ts else ts = vs) : Goes P o a w w0 Zc m S ⟨.undef, upd S.ob ob (some { b with cells := splice b.cells off ts }), S.cnt⟩ := by
  obtain ⟨hob, hlive⟩ := live_spec hb
  obtain ⟨hbase, arr, h1, h2, h3⟩ := s.heap.obs _ _ hob hlive
  have hpv := arg_spec s hay
  rw [hpe] at hpv
  obtain ⟨_, hpv⟩ := hpv
  have hc := cells_spec (arg_spec s hy) hv
  have hcs : L1R w (vol m S.ob Zc) m S.ob ts (a.eval x).cells.toList ∧ (b.isRow = true → ∀ v ∈ ts, ∃ c, v = .t c) := by
    split at hts
    · have := trees_spec hts hc
      exact ⟨this.1, fun _ => this.2⟩
    · subst hts
      exact ⟨hc, fun h => absurd h (by assumption)⟩
  have hlt : ts.length = sz := by rw [hcs.1.1, ← hc.1]; exact hl
  have hsize : (a.eval x).cells.size = sz := by rw [← Array.length_toList, ← hc.1]; exact hl
  have harr : b.cells.length ≤ arr.size := by
    rcases Nat.eq_zero_or_pos b.cells.length with e | e
    · omega
    · obtain ⟨u, g1, _⟩ := h3 (b.cells.length - 1) b.cells[b.cells.length - 1] (List.getElem?_eq_getElem (by omega))
      have := (Array.getElem?_eq_some_iff.1 g1).1
      omega
  let arr' : Array Value := (arr.toList.take (off + 0) ++ (a.eval x).cells.toList ++ arr.toList.drop (off + 0 + (a.eval x).cells.toList.length)).toArray
  have hrun := run_storeCells_at (P := P) (m.at_ ob) off b.typ (a.eval x).cells.toList 0 arr w h1 (by simp; omega) (L1R.ones hcs.1)
  have hz : vol m S.ob Zc (m.at_ ob) := .inr ⟨ob, b, hob, hlive, hf, rfl⟩
  have hother : ∀ k, k ≠ m.at_ ob → (w.setRow (m.at_ ob) arr').heap[k]? = w.heap[k]? := fun k hk => setRow_other w _ _ _ hk
  have hvol : ∀ q, vol m (upd S.ob ob (some { b with cells := splice b.cells off ts })) Zc q → vol m S.ob Zc q := by
    rintro q (hq | ⟨p, x, hpx, hxl, hxf, e⟩)
    · exact .inl hq
    · by_cases e' : p = ob
      · subst e'
        exact .inr ⟨p, b, hob, hlive, hf, e⟩
      · rw [upd_ne _ _ e'] at hpx
        exact .inr ⟨p, x, hpx, hxl, hxf, e⟩
  have e : Ext w (vol m S.ob Zc) m S.ob (w.setRow (m.at_ ob) arr') (vol m (upd S.ob ob (some { b with cells := splice b.cells off ts })) Zc) m (upd S.ob ob (some { b with cells := splice b.cells off ts })) := by
    refine ⟨⟨fun k hk _ => hother k (fun e => hk (e ▸ hz)), fun k _ hk => hvol k hk, by simp [World.setRow]⟩, fun _ _ => rfl, fun _ _ => rfl, fun p x hp => ?_⟩
    by_cases e' : p = ob
    · subst e'
      rw [hob] at hp
      injection hp with hp
      subst hp
      exact ⟨_, upd_same .., rfl, rfl⟩
    · exact ⟨x, by rw [upd_ne _ _ e']; exact hp, rfl, rfl⟩
  refine ⟨.skip, undef, w.setRow (m.at_ ob) arr', m, ?_, .inr ⟨rfl, rfl⟩, (show HR w0 Zc m (upd S.ob ob (some { b with cells := splice b.cells off ts })) S.cnt _ from ?_), e, rfl⟩
  · simp only [execOp, ho, Instr.storeAt, hpv, Instr.sureAddr, storeVar, Sem.run_bind, Sem.run_pure, Result.andThen_ok, size_spec hs, hsize]
    simp only [ne_eq, not_true_eq_false, if_false, hrun, Result.andThen_ok, arr', Sem.run_ite]
  · refine ⟨s.heap.below.trans ⟨rfl, rfl, rfl, by simp [World.setRow], fun k hk => hother k (by omega)⟩, s.heap.zc, fun nm g hg => ?_, fun p x hp hxl => ?_, fun p x p' x' hp hxl hp' hxl' he => ?_⟩
    · have hn := s.heap.fresh nm g hg
      rw [upd_ne _ _ (by rintro rfl; rw [hob] at hn; cases hn)]
      exact hn
    · by_cases e' : p = ob
      · subst e'
        rw [upd_same] at hp
        injection hp with hp
        subst hp
        refine ⟨hbase, arr', setRow_heap w _ _ _ _ _ h1, ?_, fun j v hv => ?_⟩
        · have hsz' : arr'.size = arr.size := by
            simp only [arr', List.size_toArray, List.length_append, List.length_take, List.length_drop, Array.length_toList]
            omega
          show if b.isRow then _ else _
          by_cases hrow : b.isRow = true
          · rw [if_pos hrow] at h2 ⊢
            refine ⟨by rw [hsz']; exact h2.1, h2.2.1, h2.2.2.1, by rw [splice_length _ _ _ (by omega)]; exact h2.2.2.2.1, h2.2.2.2.2.1, fun v hv => ?_⟩
            rcases List.mem_append.1 hv with hv | hv
            · rcases List.mem_append.1 hv with hv | hv
              · exact h2.2.2.2.2.2 v (List.mem_of_mem_take hv)
              · exact hcs.2 hrow v hv
            · exact h2.2.2.2.2.2 v (List.mem_of_mem_drop hv)
          · rw [if_neg hrow] at h2 ⊢
            rw [hsz', splice_length _ _ _ (by omega)]
            exact h2
        · have hsp : arr'.toList = Abs.splice arr.toList off (a.eval x).cells.toList := by simp [arr', Abs.splice]
          have hv2 := hv
          rw [splice_get _ _ _ (by omega)] at hv2
          split at hv2
          · rename_i hj
            have hjl : j - off < (a.eval x).cells.toList.length := by rw [← hcs.1.1]; omega
            refine ⟨(a.eval x).cells.toList[j - off], ?_, L1R.ones hcs.1 _ (List.getElem_mem hjl), V1R.ext e (hcs.1.2 _ v _ hv2 (List.getElem?_eq_getElem hjl))⟩
            rw [← Array.getElem?_toList, hsp, splice_get _ _ _ (by simp; omega), if_pos (by simp; omega), List.getElem?_eq_getElem hjl]
          · rename_i hj
            obtain ⟨u, g1, g2, g3⟩ := h3 j v hv2
            refine ⟨u, ?_, g2, V1R.ext e g3⟩
            rw [← Array.getElem?_toList, hsp, splice_get _ _ _ (by simp; omega), if_neg (by simp; omega), Array.getElem?_toList, g1]
      · rw [upd_ne _ _ e'] at hp
        exact OR.ext e (by rw [hp]; simp) (hother _ (fun q => e' (s.heap.inj p x ob b hp hxl hob hlive q))) (s.heap.obs p x hp hxl)
    · have red : ∀ p x, upd S.ob ob (some { b with cells := splice b.cells off ts }) p = some x → x.live = true → ∃ y, S.ob p = some y ∧ y.live = true := by
        intro p x hp hl
        by_cases e' : p = ob
        · subst e'
          exact ⟨b, hob, hlive⟩
        · rw [upd_ne _ _ e'] at hp
          exact ⟨x, hp, hl⟩
      obtain ⟨y, hy, hyl⟩ := red p x hp hxl
      obtain ⟨y', hy', hyl'⟩ := red p' x' hp' hxl'
      exact s.heap.inj p y p' y' hy hyl hy' hyl' he
end ops
end Go.Proofs.YthcnpnogfblkcaaGreat.Abs

/- Go's operations, compiled, do what the small code says: numbers, addresses, make and append. -/
namespace Go.Proofs.YthcnpnogfblkcaaGreat.Abs
open Go.RowKit
set_option linter.unusedVariables false
set_option linter.unusedSimpArgs false

theorem add_ptr (b off n : Nat) : (⟨b, off, none⟩ : Addr).add n = ⟨b, off + n, none⟩ := by unfold Addr.add; split <;> simp_all
theorem add_add (a : Addr) (d j : Nat) : (a.add d).add j = a.add (d + j) := by
  unfold Addr.add
  by_cases h1 : d = 0 <;> by_cases h2 : j = 0 <;> simp [h1, h2, Nat.add_assoc]

section ops
variable {P : Program} {o : Oper} {a : Act} {w w0 : World} {I : Ini} {Zc : Nat → Prop} {N : Nat} {m : Map} {S : St}

theorem pro_drop {w : World} {Z : Nat → Prop} {m : Map} {ob : Nm → Option Ob} {cs : List C} {ad : Addr} (d : Nat) (hz : cs ≠ [] → ¬ Z ad.block)
    (h : ∀ (j : Nat) c, cs[j]? = some c → ∃ u, w.cell? (ad.add j) = some u ∧ CR w Z c u) : V1R w Z m ob (.pro (cs.drop d)) (.pointer (some (ad.add d))) := by
  refine ⟨_, rfl, fun hne => by rw [add_block]; exact hz (by rintro rfl; simp at hne), fun j c hj => ?_⟩
  rw [List.getElem?_drop] at hj
  rw [add_add]
  exact h _ c hj

theorem go_nilck {x : Operand} {y : Arg} {v : V1} (s : Sim w0 I Zc N m S a w) (ho : o.op = .nilCheck x) (hy : cArg x = some y) (hv : y.ev S = .one v)
    (hk : (∃ p off, v = .ptr p off) ∨ (∃ cs, v = .pro cs) ∨ ∃ f l, v = .fn f l) : Goes P o a w w0 Zc m S (S.val (.one v)) := by
  have h := arg_spec s hy
  rw [hv] at h
  refine goes_val s (u := a.eval x) ?_ h
  rcases hk with ⟨p, off, rfl⟩ | ⟨cs, rfl⟩ | ⟨f, l, rfl⟩
  · obtain ⟨_, h⟩ := h
    simp [execOp, ho, h]
  · obtain ⟨ad, h, _⟩ := h
    simp [execOp, ho, h]
  · obtain ⟨_, h⟩ := h
    simp [execOp, ho, h]

theorem go_bin {op : BinOp} {t t' : TypeId} {x y : Operand} {x' y' : Arg} {k k' : IntKind} {p q : Int} {v : V1} (s : Sim w0 I Zc N m S a w) (ho : o.op = .binOp op t x y t') (hx : cArg x = some x') (hy : cArg y = some y')
    (h1 : x'.ev S = .one (.t (.int k p))) (h2 : y'.ev S = .one (.t (.int k' q))) (hv : binInt2 op k p k' q = some v) : Goes P o a w w0 Zc m S (S.val (.one v)) := by
  have e1 := arg_spec s hx
  rw [h1] at e1
  have e2 := arg_spec s hy
  rw [h2] at e2
  have e1 := one_int e1
  have e2 := one_int e2
  by_cases hs : op = .shr ∨ op = .shl
  · rcases hs with rfl | rfl
    all_goals
      simp only [binInt2] at hv
      split at hv
      · cases hv
      · rename_i hq
        injection hv with hv; subst hv
        refine goes_val s (u := .int k _) ?_ (CR.int k _)
        simp [execOp, ho, e1, e2, eqGuard, binOp, Op.shift, hq]
  · replace hv : (if k = k' then binInt op k p q else none) = some v := by
      cases op <;> first | exact hv | exact absurd (.inl rfl) hs | exact absurd (.inr rfl) hs
    by_cases hk : k = k'
    case neg => rw [if_neg hk] at hv; cases hv
    rw [if_pos hk] at hv
    subst hk
    cases op <;> simp only [binInt] at hv <;> first | cases hv | (injection hv with hv; subst hv) | (split at hv <;> first | cases hv | (injection hv with hv; subst hv))
    all_goals
      first
      | (refine goes_val s (u := .int k _) ?_ (CR.int k _); simp [execOp, ho, e1, e2, eqGuard, binOp, Op.intArith, Op.intCmp, Op.intBits]; done)
      | (refine goes_val s (u := .bool _) ?_ (CR.bool _); simp [execOp, ho, e1, e2, eqGuard, binOp, Op.intArith, Op.intCmp]; done)
      | (rename_i hq; refine goes_val s (u := .int k _) ?_ (CR.int k _); simp [execOp, ho, e1, e2, eqGuard, binOp, Op.intDiv, hq]; done)

theorem go_not {t : TypeId} {x : Operand} {y : Arg} {b : Bool} (s : Sim w0 I Zc N m S a w) (ho : o.op = .unOp .not t x) (hy : cArg x = some y) (hv : y.ev S = .one (.t (.bool b))) :
    Goes P o a w w0 Zc m S (S.val (.one (.t (.bool (!b))))) := by
  have h := arg_spec s hy
  rw [hv] at h
  refine goes_val s (u := .bool (!b)) ?_ (CR.bool _)
  simp [execOp, ho, one_bool h, Op.unary]

theorem go_conv {t t' : TypeId} {x : Operand} {y : Arg} {k k' : IntKind} {n : Int} (s : Sim w0 I Zc N m S a w) (ho : o.op = .convert t t' x) (hy : cArg x = some y) (ht : (P.underlying t).isSome = true) (ht' : P.underlying t' = some (.int k))
    (hv : y.ev S = .one (.t (.int k' n))) : Goes P o a w w0 Zc m S (S.val (.one (.t (.int k (k.wrap n))))) := by
  have h := arg_spec s hy
  rw [hv] at h
  obtain ⟨d, hd⟩ := Option.isSome_iff_exists.1 ht
  refine goes_val s (u := .int k (k.wrap n)) ?_ (CR.int _ _)
  simp [execOp, ho, one_int h, convert, run_underlying hd, run_underlying ht', Conv.intToInt]

theorem go_fieldA {t : TypeId} {x : Operand} {y : Arg} {i sz : Nat} {fields : Array Field} {f : Field} {v v' : V1} (s : Sim w0 I Zc N m S a w) (ho : o.op = .fieldAddr t x i) (hy : cArg x = some y)
    (ht : P.underlying t = some (.struct fields)) (hf : fields[i]? = some f) (hs : sizeB P f.type = some sz) (hpos : sz ≠ 0) (hv : y.ev S = .one v)
    (hk : (∃ p off, v = .ptr p off ∧ v' = .ptr p (off + f.offset)) ∨ ∃ cs, v = .pro cs ∧ v' = .pro (cs.drop f.offset)) : Goes P o a w w0 Zc m S (S.val (.one v')) := by
  have h := arg_spec s hy
  rw [hv] at h
  have run : ∀ ad : Addr, a.eval x = .pointer (some ad) → (execOp a.eval o).run P w = .ok (.value (.pointer (some (ad.add f.offset)))) w := by
    intro ad hx
    simp only [execOp, ho, Instr.fieldAt, hx, Sem.run_bind, run_underlying ht, Result.andThen_ok, hf, Instr.sureAddr, Sem.run_pure, fieldPlace, size_spec hs, if_neg hpos]
  rcases hk with ⟨p, off, rfl, rfl⟩ | ⟨cs, rfl, rfl⟩
  · obtain ⟨hne, h⟩ := h
    exact goes_val s (run _ h) ⟨hne, by rw [add_ptr]⟩
  · obtain ⟨ad, h, hz, hc⟩ := h
    exact goes_val s (run _ h) (pro_drop (m := m) (ob := S.ob) _ hz hc)

theorem go_idx_pro {t e : TypeId} {x i : Operand} {x' i' : Arg} {esz n : Nat} {k : IntKind} {j : Int} {cs : List C} (s : Sim w0 I Zc N m S a w) (ho : o.op = .indexAddr t x i) (hx : cArg x = some x') (hi : cArg i = some i')
    (ht : P.underlying t = some (.slice e)) (hs : sizeB P e = some esz) (h1 : x'.ev S = .one (.t (.sl n cs))) (h2 : i'.ev S = .one (.t (.int k j))) (h0 : 0 ≤ j) (hn : j < n) (hc : j.toNat * esz < cs.length) :
    Goes P o a w w0 Zc m S (S.val (.one (.pro (cs.drop (j.toNat * esz))))) := by
  have e1 := arg_spec s hx
  rw [h1] at e1
  have e2 := arg_spec s hi
  rw [h2] at e2
  have e2 := one_int e2
  generalize hv : a.eval x = v at e1
  cases (show CR w _ (.sl n cs) v from e1)
  rename_i cap A us hcap ha hcc
  obtain ⟨ad, rfl, hz, hr⟩ := ha (by omega)
  refine goes_val s (u := .pointer (some (ad.add (j.toNat * esz)))) ?_ (pro_drop (m := m) (ob := S.ob) _ (fun _ => hz) (fun q c hq => ⟨us q, hr q (List.getElem?_eq_some_iff.1 hq).1, hcc q c hq⟩))
  simp only [execOp, ho, Instr.indexAt, hv, e2, asIntOf, Sem.run_bind, Sem.run_pure, Result.andThen_ok, run_underlying ht, size_spec hs, Sem.run_ite, if_pos (show 0 ≤ j ∧ j < (n : Int) from ⟨h0, hn⟩)]

theorem go_idx_row {t e : TypeId} {x i : Operand} {x' i' : Arg} {esz : Nat} {k : IntKind} {j : Int} {p : Nm} {y : Ob} (s : Sim w0 I Zc N m S a w) (ho : o.op = .indexAddr t x i) (hx : cArg x = some x') (hi : cArg i = some i')
    (ht : P.underlying t = some (.slice e)) (hs : sizeB P e = some esz) (h1 : x'.ev S = .one (.row p)) (hp : S.live p = some y) (h2 : i'.ev S = .one (.t (.int k j))) (h0 : 0 ≤ j) (hn : j < y.n) :
    Goes P o a w w0 Zc m S (S.val (.one (.ptr p (j.toNat * esz)))) := by
  have e1 := arg_spec s hx
  rw [h1] at e1
  have e2 := arg_spec s hi
  rw [h2] at e2
  have e2 := one_int e2
  obtain ⟨y', hy', _, hv⟩ := e1
  rw [(live_spec hp).1] at hy'
  injection hy' with hy'
  subst hy'
  refine goes_val s (u := .pointer (some ((⟨m.at_ p, 0, none⟩ : Addr).add (j.toNat * esz)))) ?_ ⟨by rw [(live_spec hp).1]; simp, by rw [add_ptr, Nat.zero_add]⟩
  simp only [execOp, ho, Instr.indexAt, hv, e2, asIntOf, Sem.run_bind, Sem.run_pure, Result.andThen_ok, run_underlying ht, size_spec hs, Sem.run_ite, if_pos (show 0 ≤ j ∧ j < (y.n : Int) from ⟨h0, hn⟩)]

theorem go_idxArr {t e : TypeId} {x i : Operand} {x' i' : Arg} {len esz : Nat} {k : IntKind} {j : Int} {v v' : V1} (s : Sim w0 I Zc N m S a w) (ho : o.op = .indexAddr t x i) (hx : cArg x = some x') (hi : cArg i = some i')
    (ht : P.underlying t = some (.array len e)) (hs : sizeB P e = some esz) (h1 : x'.ev S = .one v) (h2 : i'.ev S = .one (.t (.int k j))) (h0 : 0 ≤ j) (hn : j < len)
    (hk : (∃ p off, v = .ptr p off ∧ v' = .ptr p (off + j.toNat * esz)) ∨ ∃ cs, v = .pro cs ∧ v' = .pro (cs.drop (j.toNat * esz))) : Goes P o a w w0 Zc m S (S.val (.one v')) := by
  have h := arg_spec s hx
  rw [h1] at h
  have e2 := arg_spec s hi
  rw [h2] at e2
  have e2 := one_int e2
  have run : ∀ ad : Addr, a.eval x = .pointer (some ad) → (execOp a.eval o).run P w = .ok (.value (.pointer (some (ad.add (j.toNat * esz))))) w := by
    intro ad hx
    simp only [execOp, ho, Instr.indexAt, hx, e2, asIntOf, Instr.sureAddr, Sem.run_bind, Sem.run_pure, Result.andThen_ok, run_underlying ht, size_spec hs, Sem.run_ite, if_pos (show 0 ≤ j ∧ j < (len : Int) from ⟨h0, hn⟩)]
  rcases hk with ⟨p, off, rfl, rfl⟩ | ⟨cs, rfl, rfl⟩
  · obtain ⟨hne, h⟩ := h
    exact goes_val s (run _ h) ⟨hne, by rw [add_ptr]⟩
  · obtain ⟨ad, h, hz, hc⟩ := h
    exact goes_val s (run _ h) (pro_drop (m := m) (ob := S.ob) _ hz hc)

theorem go_extract {x : Operand} {y : Arg} {i : Nat} {ss : List (Bool × List V1)} {v : AV} (s : Sim w0 I Zc N m S a w) (ho : o.op = .extract x i) (hy : cArg x = some y) (hv : y.ev S = .tup ss)
    (hk : (∃ vs, ss[i]? = some (true, vs) ∧ v = .agg vs) ∨ ∃ v1, ss[i]? = some (false, [v1]) ∧ v = .one v1) : Goes P o a w w0 Zc m S (S.val v) := by
  have h := arg_spec s hy
  rw [hv] at h
  obtain ⟨us, hx, hl, hs⟩ := h
  have key : ∀ q, ss[i]? = some q → ∃ u, us[i]? = some u ∧ SVR w (vol m S.ob Zc) m S.ob q u := by
    intro q hq
    have hi : i < us.size := by rw [← hl]; exact (List.getElem?_eq_some_iff.1 hq).1
    exact ⟨us[i], Array.getElem?_eq_getElem hi, hs i q _ hq (Array.getElem?_eq_getElem hi)⟩
  rcases hk with ⟨vs, hq, rfl⟩ | ⟨v1, hq, rfl⟩
  · obtain ⟨u, hu, h⟩ := key _ hq
    exact goes_val s (u := u) (by simp [execOp, ho, hx, Instr.extract, hu]) h
  · obtain ⟨u, hu, h⟩ := key _ hq
    obtain ⟨x1, he, h⟩ := h
    injection he with he _
    subst he
    exact goes_val s (u := u) (by simp [execOp, ho, hx, Instr.extract, hu]) h

/-- A slice's cells. -/
theorem slice_spec {w : World} (s : Sim w0 I Zc N m S a w) {x : AV} {v : Value} {n : Nat} {cs : List V1} (h : AVR w (vol m S.ob Zc) m S.ob x v) (hs : sliceOf S x = some (n, cs)) :
    ∃ A c us, v = .slice A n c ∧ n ≤ c ∧ L1R w (vol m S.ob Zc) m S.ob cs us ∧ (us ≠ [] → A ≠ none) ∧ ∀ ad, A = some ad → ∀ (j : Nat) u, us[j]? = some u → w.cell? (ad.add j) = some u := by
  unfold sliceOf at hs
  split at hs
  · rename_i n' cs'
    injection hs with hs
    injection hs with h1 h2
    subst h1 h2
    cases (show CR w _ (.sl n' cs') v from h)
    rename_i cap A us hcap ha hcc
    refine ⟨A, cap, (List.range cs'.length).map us, rfl, hcap, ⟨by simp, fun j q u hq hu => ?_⟩, fun hne e => ?_, fun ad e j u hu => ?_⟩
    · simp only [List.getElem?_map, Option.map_eq_some_iff] at hq hu
      obtain ⟨c, hc, rfl⟩ := hq
      obtain ⟨i, hi, rfl⟩ := hu
      obtain ⟨_, rfl⟩ := List.getElem?_eq_some_iff.1 hi
      simp
      exact hcc j c hc
    · obtain ⟨ad, e2, _⟩ := ha (by
        rcases Nat.eq_zero_or_pos cs'.length with h0 | h0
        · rw [h0] at hne; simp at hne
        · exact h0)
      rw [e] at e2
      cases e2
    · simp only [List.getElem?_map, Option.map_eq_some_iff] at hu
      obtain ⟨i, hi, rfl⟩ := hu
      obtain ⟨hlt, rfl⟩ := List.getElem?_eq_some_iff.1 hi
      simp at hlt ⊢
      obtain ⟨ad', e2, _, hr⟩ := ha (by omega)
      rw [e] at e2
      injection e2 with e2
      subst e2
      exact hr j hlt
  · injection hs with hs
    injection hs with h1 h2
    subst h1 h2
    obtain ⟨A, rfl⟩ : ∃ A, v = .slice A 0 0 := h
    exact ⟨A, 0, [], rfl, Nat.le_refl _, ⟨rfl, fun j q u hq => by simp at hq⟩, fun h => absurd rfl h, fun ad e j u hu => by simp at hu⟩
  · rename_i p
    split at hs
    · rename_i b hb
      split at hs
      · rename_i hrow
        injection hs with hs
        injection hs with h1 h2
        subst h1 h2
        obtain ⟨hob, hlive⟩ := live_spec hb
        obtain ⟨b', hb', _, rfl⟩ := h
        rw [hob] at hb'
        injection hb' with hb'
        subst hb'
        obtain ⟨hbase, arr, g1, g2, g3⟩ := s.heap.obs _ _ hob hlive
        rw [if_pos hrow] at g2
        have hfit : b.cells.length ≤ arr.size := by rw [g2.1, g2.2.2.2.1]; exact Nat.mul_le_mul_right _ g2.2.1
        refine ⟨_, _, arr.toList.take b.cells.length, rfl, g2.2.1, ⟨by simp; omega, fun j q u hq hu => ?_⟩, fun _ => by simp, fun ad e j u hu => ?_⟩
        · obtain ⟨u', h1, _, h3⟩ := g3 j q hq
          rw [List.getElem?_take] at hu
          split at hu
          · rw [Array.getElem?_toList, h1] at hu
            injection hu with hu
            subst hu
            exact h3
          · cases hu
        · injection e with e
          subst e
          rw [List.getElem?_take] at hu
          split at hu
          · rw [add_ptr, Nat.zero_add, cell_of_row w _ _ _ _ _ g1]
            rw [Array.getElem?_toList] at hu
            exact hu
          · cases hu
      · cases hs
    · cases hs
  · cases hs

theorem go_len {t e : TypeId} {x : Operand} {y : Arg} {n : Nat} {cs : List V1} (s : Sim w0 I Zc N m S a w) (ho : o.op = .call { callee := .builtin .len, args := #[x], argTypes := #[t] }) (hy : cArg x = some y)
    (ht : P.underlying t = some (.slice e)) (hv : sliceOf S (y.ev S) = some (n, cs)) : Goes P o a w w0 Zc m S (S.val (.one (.t (.int .i64 n)))) := by
  obtain ⟨A, c, us, hx, _⟩ := slice_spec s (arg_spec s hy) hv
  refine goes_val s (u := .int .i64 n) ?_ (CR.int _ _)
  simp [execOp, ho, resolve, invoke, builtin, hx, Builtin.len_, run_underlying ht, goInt]

theorem go_minmax {t t' : TypeId} {x y : Operand} {x' y' : Arg} {k : IntKind} {p q : Int} {b : Bool} (s : Sim w0 I Zc N m S a w) (ho : o.op = .call { callee := .builtin (if b then .max else .min), args := #[x, y], argTypes := #[t, t'] })
    (hx : cArg x = some x') (hy : cArg y = some y') (h1 : x'.ev S = .one (.t (.int k p))) (h2 : y'.ev S = .one (.t (.int k q)))
    (hrun : ∀ (ty : TypeId) (W : World), ((if b then Builtin.max_ else Builtin.min_) #[t, t'] ty #[.int k p, .int k q]).run P W = .ok (.int k (if b then max p q else min p q)) W) :
    Goes P o a w w0 Zc m S (S.val (.one (.t (.int k (if b then max p q else min p q))))) := by
  have e1 := arg_spec s hx
  rw [h1] at e1
  have e2 := arg_spec s hy
  rw [h2] at e2
  have e1 := one_int e1
  have e2 := one_int e2
  refine goes_val s (u := .int k (if b then max p q else min p q)) ?_ (CR.int _ _)
  have hr := hrun o.type w
  cases b <;> simp [execOp, ho, resolve, invoke, builtin, e1, e2] <;> simp at hr <;> simp [hr]

theorem go_make {t e nm esz n bytes : Nat} {l c : Operand} {l' c' : Arg} {z : List V1} {zv : Value} {i : TypeInfo} {k k' : IntKind} (s : Sim w0 I Zc N m S a w) (ho : o.op = .makeSlice t l c) (hl : cArg l = some l') (hc : cArg c = some c')
    (ht : P.underlying t = some (.slice e)) (hi : P.info? e = some i) (hes : i.size = esz) (hby : i.bytes = bytes) (hpos : 0 < esz) (hzv : i.zero = some zv) (hzs : zv.cells.size = esz) (hz : v1s zv.cells.toList = some z) (hzt : ∀ v ∈ z, ∃ c, v = .t c)
    (h1 : l'.ev S = .one (.t (.int k (n : Int)))) (h2 : c'.ev S = .one (.t (.int k' (n : Int)))) (hb : n * bytes ≤ 140737488355328) (hm : n ≤ 9223372036854775807) :
    Goes P o a w w0 Zc m S (S.new nm ⟨true, true, false, esz, n, e, (List.replicate n z).flatten⟩ (.one (.row (nm, S.cnt nm)))) := by
  subst hes hby
  have e1 := arg_spec s hl
  rw [h1] at e1
  have e2 := arg_spec s hc
  rw [h2] at e2
  have e1 := one_int e1
  have e2 := one_int e2
  obtain ⟨w', hrun, hown, hg⟩ := run_make_full (P := P) w w0.heap.size t e i zv i.size ht hi hzv rfl k k' n (by rw [Nat.mul_comm]; omega) (by simp only [maxLen]; omega) s.heap.size
  have hcz := v1s_spec (w := w) (Z := vol m S.ob Zc) (m := m) (ob := S.ob) hz
  have hzl : z.length = i.size := by rw [hcz.1, Array.length_toList, hzs]
  have hfl : ((List.replicate n z).flatten).length = n * i.size := by simp [hzl]
  rcases hown.2 with ⟨he, _⟩ | ⟨g, cap, cur, he, hbase, hh, hn1, hn2, hn3, hn4⟩
  · cases he
  injection he with he _ hcap
  injection he with he
  injection he with he
  subst he
  subst hcap
  have hcells : ∀ (j : Nat), j < n * i.size → cur[j]? = some zv.cells[j % zv.cells.size]! := by
    intro j hj
    have := congrArg (fun l : List Value => l[j]?) hn4
    simp only [List.getElem?_take, if_pos hj, madeCells] at this
    rw [← Array.getElem?_toList, this]
    simp [hj]
  have hb' : Below w.heap.size w w' := ⟨hg.os, hg.tape, hg.output, hg.size, fun q hq => hg.block q hq (by simp)⟩
  refine ⟨_, .slice (some ⟨w.heap.size, 0, none⟩) n n, w', m.set (nm, S.cnt nm) w.heap.size n, ?_, .inl rfl, hr_new s.heap nm ⟨true, true, false, i.size, n, e, _⟩ n hb' (fun _ => ⟨cur, hh, ?_, fun j v hv => ?_⟩), ext_new s.heap nm _ n (fun q hq => hb'.block q hq) hb'.size, ?_⟩
  · simp [execOp, ho, e1, e2, hrun]
  · simp only [if_true]
    refine ⟨hn3, Nat.le_refl _, by simp only [maxLen]; omega, hfl, hpos, fun v hv => ?_⟩
    simp only [List.mem_flatten, List.mem_replicate] at hv
    obtain ⟨l, ⟨_, rfl⟩, hv⟩ := hv
    exact hzt v hv
  · have hj : j < n * i.size := by rw [← hfl]; exact (List.getElem?_eq_some_iff.1 hv).1
    have hjm : j % i.size < i.size := Nat.mod_lt _ hpos
    refine ⟨_, hcells j hj, ?_⟩
    have hget : ∀ (n j : Nat), j < n * i.size → ((List.replicate n z).flatten)[j]? = z[j % i.size]? := by
      intro n
      induction n with
      | zero => intro j hj; omega
      | succ n ih =>
        intro j hj
        rw [List.replicate_succ, List.flatten_cons, List.getElem?_append]
        split
        · rw [Nat.mod_eq_of_lt (by omega)]
        · rw [ih _ (by rw [Nat.add_mul] at hj; omega), hzl]
          congr 1
          rw [← Nat.mod_eq_sub_mod (by omega)]
    have hv2 : z[j % i.size]? = some v := by rw [← hget n j hj]; exact hv
    have hlt : j % i.size < zv.cells.toList.length := by rw [Array.length_toList, hzs]; exact hjm
    have hr := hcz.2 _ v _ hv2 (List.getElem?_eq_getElem hlt)
    rw [hzs, getElem!_pos zv.cells _ (by rw [hzs]; exact hjm)]
    simpa using hr
  · exact ⟨_, by simp [St.new, upd_same]; rfl, rfl, by simp [Map.set, upd_same]⟩
end ops
end Go.Proofs.YthcnpnogfblkcaaGreat.Abs

/- Go's operations, compiled, do what the small code says: append, function values. -/
namespace Go.Proofs.YthcnpnogfblkcaaGreat.Abs
open Go.RowKit
set_option linter.unusedVariables false
set_option linter.unusedSimpArgs false

section ops
variable {P : Program} {o : Oper} {a : Act} {w w0 : World} {I : Ini} {Zc : Nat → Prop} {N : Nat} {m : Map} {S : St}

/-- append, a nil slice as the second one too. -/
theorem run_append_any (base : Nat) (t ty e : TypeId) (i : TypeInfo) (z : Value) (ht : P.underlying t = some (.slice e)) (hi : P.info? e = some i) (hz : i.zero = some z)
    (hzs : z.cells.size = i.size) (hsz : 0 < i.size) (v : Value) (n : Nat) (xs : List Value) (hown : w.ownsRow base e i.size v n xs)
    (A : Option Addr) (k c : Nat) (news : List Value) (hl : news.length = k * i.size) (hA : news ≠ [] → A ≠ none) (hnews : ∀ ad, A = some ad → ∀ (j : Nat) u, news[j]? = some u → w.cell? (ad.add j) = some u) (h1 : ∀ u ∈ news, u.oneCell' = true)
    (h63 : n + k ≤ maxLen) (hbytes : (n + k) * i.bytes ≤ 140737488355328) (hbase : base ≤ w.heap.size) :
    ∃ v' w', (Builtin.append_ #[t, t] ty #[v, .slice A k c]).run P w = .ok v' w' ∧ w'.ownsRow base e i.size v' (n + k) (xs ++ news) ∧ w.grownBy w' v.ownBlock ∧
      (v' = .slice none 0 0 ↔ v = .slice none 0 0 ∧ k = 0) ∧ (v'.ownBlock = v.ownBlock ∨ v'.ownBlock = some w.heap.size) := by
  cases A with
  | some ad => exact run_append_own_at w base t ty e i z i.size i.bytes ht hi hz rfl rfl hzs hsz v n xs hown ad k c news hl (hnews ad rfl) h1 h63 hbytes hbase
  | none =>
    have hn : news = [] := by
      cases news with
      | nil => rfl
      | cons x r => exact absurd rfl (hA (by simp))
    subst hn
    have hk : k = 0 := by
      rcases Nat.eq_zero_or_pos k with h | h
      · exact h
      · have := Nat.mul_pos h hsz
        simp only [List.length_nil] at hl
        omega
    subst hk
    refine ⟨v, w, ?_, by simpa using hown, ⟨rfl, rfl, rfl, Nat.le_refl _, fun _ _ _ => rfl⟩, by simp, .inl rfl⟩
    rcases hown.2 with ⟨rfl, rfl⟩ | ⟨g, cap, cur, rfl, _, _, hnc, _⟩
    · simp [Builtin.append_, run_underlying ht, sizeOf, typeInfo, hi, Builtin.lenOf, Builtin.firstCells]
    · simp [Builtin.append_, run_underlying ht, sizeOf, typeInfo, hi, Builtin.lenOf, Builtin.firstCells, hnc, storeCells]

theorem ownsRow_at {base e sz k : Nat} {v : Value} {xs : List Value} (h : w.ownsRow base e sz v k xs) (hk : 0 < k) : ∃ g cap cur, v = .slice (some ⟨g, 0, none⟩) k cap ∧ base ≤ g ∧ w.heap[g]? = some (.cells cur e (0, 0)) ∧ k ≤ cap ∧ cap ≤ maxLen ∧ cur.size = cap * sz ∧ cur.toList.take (k * sz) = xs := by
  rcases h.2 with ⟨_, h⟩ | h
  · omega
  · exact h

/-- append to a slice of no element and no room, nil or not. -/
theorem run_append_empty (base : Nat) (t ty e : TypeId) (i : TypeInfo) (z : Value) (ht : P.underlying t = some (.slice e)) (hi : P.info? e = some i) (hz : i.zero = some z)
    (hzs : z.cells.size = i.size) (hsz : 0 < i.size) (B : Option Addr)
    (A : Option Addr) (k c : Nat) (news : List Value) (hl : news.length = k * i.size) (hA : news ≠ [] → A ≠ none) (hnews : ∀ ad, A = some ad → ∀ (j : Nat) u, news[j]? = some u → w.cell? (ad.add j) = some u) (h1 : ∀ u ∈ news, u.oneCell' = true)
    (h63 : k ≤ maxLen) (hbytes : k * i.bytes ≤ 140737488355328) (hbase : base ≤ w.heap.size) :
    ∃ v' w', (Builtin.append_ #[t, t] ty #[.slice B 0 0, .slice A k c]).run P w = .ok v' w' ∧ w.grownBy w' none ∧
      (k = 0 → v' = .slice B 0 0) ∧ (0 < k → w'.ownsRow base e i.size v' k news ∧ v'.ownBlock = some w.heap.size) := by
  by_cases hk : k = 0
  · subst hk
    have hn : news = [] := List.eq_nil_of_length_eq_zero (by simpa using hl)
    subst hn
    refine ⟨.slice B 0 0, w, ?_, ⟨rfl, rfl, rfl, Nat.le_refl _, fun _ _ _ => rfl⟩, fun _ => rfl, fun h => absurd h (by omega)⟩
    cases A <;> cases B <;> simp [Builtin.append_, run_underlying ht, sizeOf, typeInfo, hi, Builtin.lenOf, Builtin.firstCells, loadCells, loadCellsFrom, storeCells]
  · have hpos : 0 < k := by omega
    cases B with
    | none =>
      obtain ⟨v', w', hrun, hown, hg, hnil, hat⟩ := run_append_any (P := P) (w := w) base t ty e i z ht hi hz hzs hsz (.slice none 0 0) 0 [] (World.ownsRow_nil ..) A k c news hl hA hnews h1 (by simpa using h63) (by simpa using hbytes) hbase
      simp only [Nat.zero_add, List.nil_append] at hown
      refine ⟨v', w', hrun, hg, fun h => absurd h hk, fun _ => ⟨hown, ?_⟩⟩
      rcases hat with h | h
      · obtain ⟨g, cap, cur, rfl, _⟩ := ownsRow_at hown hpos
        cases h
      · exact h
    | some b =>
      cases A with
      | none =>
        have hne : news ≠ [] := by
          rintro rfl
          have := Nat.mul_pos hpos hsz
          simp at hl
          omega
        exact absurd rfl (hA hne)
      | some ad =>
        obtain ⟨v', w', hrun, hown, hg⟩ := run_append_arg_grows (P := P) (w := w) t ty e i z i.size i.bytes ht hi hz rfl rfl hzs hsz b 0 0 [] (by simp) (fun j u h => by simp at h) ad k c news hl (hnews ad rfl) (by omega) (by simpa using h63) (by simpa using hbytes)
        have hr := run_append_grow (P := P) w t ty e i z ht hi hz b 0 0 [] (by simp) (fun j u h => by simp at h) ad k c news hl (hnews ad rfl) (by omega) (by simp only [maxLen] at h63; omega) (growslice_fits (by omega) (by simpa using hbytes))
        rw [hr] at hrun
        injection hrun with e1 e2
        subst e1 e2
        simp only [Nat.zero_add, List.nil_append] at hown hr hg ⊢
        refine ⟨_, _, hr, hg, fun h => absurd h hk, fun _ => ⟨⟨hown.1, ?_⟩, rfl⟩⟩
        rcases hown.2 with h | ⟨g, cap, cur, h1, h2, h3⟩
        · exact .inl h
        · exact .inr ⟨g, cap, cur, h1, by omega, h3⟩

theorem take_L1R {w : World} {Z : Nat → Prop} {m : Map} {ob : Nm → Option Ob} {cs : List V1} {arr : Array Value} (hle : cs.length ≤ arr.size)
    (h : ∀ (j : Nat) v, cs[j]? = some v → ∃ u, arr[j]? = some u ∧ u.oneCell' = true ∧ V1R w Z m ob v u) : L1R w Z m ob cs (arr.toList.take cs.length) := by
  refine ⟨by simp; omega, fun j v u hv hu => ?_⟩
  obtain ⟨u', h1, _, h3⟩ := h j v hv
  rw [List.getElem?_take] at hu
  split at hu
  · rw [Array.getElem?_toList, h1] at hu
    injection hu with hu
    subst hu
    exact h3
  · cases hu

/-- What an appended row says of the world behind. -/
theorem cur_of_take {w : World} {Z : Nat → Prop} {m : Map} {ob : Nm → Option Ob} {cs : List V1} {cur : Array Value} {us : List Value} {n : Nat} (h : L1R w Z m ob cs us) (ht : cur.toList.take n = us) :
    ∀ (j : Nat) v, cs[j]? = some v → ∃ u, cur[j]? = some u ∧ V1R w Z m ob v u := by
  intro j v hv
  have hj : j < us.length := by rw [← h.1]; exact (List.getElem?_eq_some_iff.1 hv).1
  refine ⟨us[j], ?_, h.2 j v _ hv (List.getElem?_eq_getElem hj)⟩
  have : (cur.toList.take n)[j]? = some us[j] := by rw [ht]; exact List.getElem?_eq_getElem hj
  rw [List.getElem?_take] at this
  split at this
  · rw [← Array.getElem?_toList]; exact this
  · cases this

theorem L1R.append {w : World} {Z : Nat → Prop} {m : Map} {ob : Nm → Option Ob} {a b : List V1} {us vs : List Value} (h : L1R w Z m ob a us) (h' : L1R w Z m ob b vs) : L1R w Z m ob (a ++ b) (us ++ vs) := by
  have e := h.1
  refine ⟨by simp [h.1, h'.1], fun j v u hv hu => ?_⟩
  rw [List.getElem?_append] at hv hu
  by_cases hj : j < a.length
  · rw [if_pos hj] at hv
    rw [if_pos (by omega)] at hu
    exact h.2 j v u hv hu
  · rw [if_neg hj] at hv
    rw [if_neg (by omega)] at hu
    exact h'.2 _ v u hv (by rw [e]; exact hu)

theorem go_append_nil {t e nm k : Nat} {x y : Operand} {x' y' : Arg} {i : TypeInfo} {zv : Value} {news ts : List V1} (s : Sim w0 I Zc N m S a w)
    (ho : o.op = .call { callee := .builtin .append, args := #[x, y], argTypes := #[t, t] }) (hx : cArg x = some x') (hy : cArg y = some y')
    (ht : P.underlying t = some (.slice e)) (hi : P.info? e = some i) (hpos : 0 < i.size) (hzv : i.zero = some zv) (hzs : zv.cells.size = i.size)
    (hys : sliceOf S (y'.ev S) = some (k, news)) (hts : trees news = some ts) (hxe : x'.ev S = .one .nil) (hb : k * i.bytes ≤ 140737488355328) (hlen : ts.length = k * i.size) (hm : k ≤ 9223372036854775807) :
    Goes P o a w w0 Zc m S (if k = 0 then S.val (.one .nil) else S.new nm ⟨true, true, false, i.size, k, e, ts⟩ (.one (.row (nm, S.cnt nm)))) := by
  have e1 := arg_spec s hx
  rw [hxe] at e1
  obtain ⟨B, e1⟩ : ∃ B, a.eval x = .slice B 0 0 := e1
  obtain ⟨A, c, us, hv, _, hl, hA, hc⟩ := slice_spec s (arg_spec s hy) hys
  have hlt := trees_spec hts hl
  obtain ⟨v', w', hrun, hg, h0, h1⟩ := run_append_empty (P := P) (w := w) w0.heap.size t o.type e i zv ht hi hzv hzs hpos B A k c us (by rw [← hlt.1.1]; exact hlen) hA hc (L1R.ones hl)
    (by simp only [maxLen]; omega) (by simpa using hb) s.heap.size
  have hr : (execOp a.eval o).run P w = .ok (.value v') w' := by
    simp [execOp, ho, resolve, invoke, builtin, e1, hv, hrun]
  have hb' : Below w.heap.size w w' := ⟨hg.os, hg.tape, hg.output, hg.size, fun q hq => hg.block q hq (by simp)⟩
  by_cases hk : k = 0
  · rw [if_pos hk]
    have e := h0 hk
    subst e
    have ex : Ext w (vol m S.ob Zc) m S.ob w' (vol m S.ob Zc) m S.ob := ⟨⟨fun q _ hq => hb'.block q hq, fun _ _ h => h, hb'.size⟩, fun _ _ => rfl, fun _ _ => rfl, fun p y h => ⟨y, h, rfl, rfl⟩⟩
    refine ⟨_, _, w', m, hr, .inl rfl, ⟨s.heap.below.trans (hb'.mono s.heap.size), s.heap.zc, s.heap.fresh, fun p y hp hl => ?_, s.heap.inj⟩, ex, ⟨B, rfl⟩⟩
    exact OR.ext ex (by rw [show S.ob p = some y from hp]; simp) (hb'.block _ (s.heap.at_lt hp hl)) (s.heap.obs p y hp hl)
  · rw [if_neg hk]
    obtain ⟨hown, hat⟩ := h1 (by omega)
    obtain ⟨g, cap, cur, rfl, hbase, hh, hn1, hn2, hn3, hn4⟩ := ownsRow_at hown (by omega)
    have hgs : g = w.heap.size := by injection hat
    subst hgs
    have hn4' : cur.toList.take us.length = us := by rw [← hlt.1.1, hlen]; exact hn4
    refine ⟨_, _, w', m.set (nm, S.cnt nm) w.heap.size cap, hr, .inl rfl, hr_new s.heap nm ⟨true, true, false, i.size, k, e, ts⟩ cap hb' (fun _ => ⟨cur, hh, ?_, cur_of_take hlt.1 hn4'⟩), ext_new s.heap nm _ cap (fun q hq => hb'.block q hq) hb'.size, ?_⟩
    · simp only [if_true]
      exact ⟨hn3, hn1, hn2, hlen, hpos, hlt.2⟩
    · exact ⟨_, by simp [St.new, upd_same]; rfl, rfl, by simp [Map.set, upd_same]⟩

theorem go_append_row {t e nm k : Nat} {x y : Operand} {x' y' : Arg} {i : TypeInfo} {zv : Value} {news ts : List V1} {p : Nm} {b : Ob} (s : Sim w0 I Zc N m S a w)
    (ho : o.op = .call { callee := .builtin .append, args := #[x, y], argTypes := #[t, t] }) (hx : cArg x = some x') (hy : cArg y = some y')
    (ht : P.underlying t = some (.slice e)) (hi : P.info? e = some i) (hpos : 0 < i.size) (hzv : i.zero = some zv) (hzs : zv.cells.size = i.size)
    (hys : sliceOf S (y'.ev S) = some (k, news)) (hts : trees news = some ts) (hxe : x'.ev S = .one (.row p)) (hp : S.live p = some b) (hrow : b.isRow = true) (hfz : b.frz = false) (hbe : b.esz = i.size) (hbt : b.typ = e)
    (hb : (b.n + k) * i.bytes ≤ 140737488355328) (hlen : ts.length = k * i.size) (hm : b.n + k ≤ 9223372036854775807) :
    Goes P o a w w0 Zc m S ⟨.one (.row (nm, S.cnt nm)), upd (upd S.ob p (some { b with live := false })) (nm, S.cnt nm) (some ⟨true, true, false, i.size, b.n + k, e, b.cells ++ ts⟩), upd S.cnt nm (S.cnt nm + 1)⟩ := by
  obtain ⟨hob, hlive⟩ := live_spec hp
  have e1 := arg_spec s hx
  rw [hxe] at e1
  obtain ⟨b', hb', _, e1⟩ := e1
  rw [hob] at hb'
  injection hb' with hb'
  subst hb'
  obtain ⟨hbase0, arr, g1, g2, g3⟩ := s.heap.obs _ _ hob hlive
  rw [if_pos hrow, hbe] at g2
  rw [hbt] at g1
  have hfit : b.cells.length ≤ arr.size := by rw [g2.1, g2.2.2.2.1]; exact Nat.mul_le_mul_right _ g2.2.1
  have hold := take_L1R hfit g3
  have hown0 : w.ownsRow w0.heap.size e i.size (.slice (some ⟨m.at_ p, 0, none⟩) b.n (m.cap p)) b.n (arr.toList.take b.cells.length) :=
    ⟨by rw [← hold.1]; exact g2.2.2.2.1, .inr ⟨m.at_ p, m.cap p, arr, rfl, hbase0, g1, g2.2.1, g2.2.2.1, g2.1, by rw [g2.2.2.2.1]⟩⟩
  obtain ⟨A, c, us, hv, _, hl, hA, hc⟩ := slice_spec s (arg_spec s hy) hys
  have hlt := trees_spec hts hl
  obtain ⟨v', w', hrun, hown, hg, hnil, hat⟩ := run_append_any (P := P) (w := w) w0.heap.size t o.type e i zv ht hi hzv hzs hpos _ _ _ hown0 A k c us (by rw [← hlt.1.1]; exact hlen) hA hc (L1R.ones hl)
    (by simp only [maxLen]; omega) hb s.heap.size
  have hr : (execOp a.eval o).run P w = .ok (.value v') w' := by
    simp [execOp, ho, resolve, invoke, builtin, e1, hv, hrun]
  rcases hown.2 with ⟨he, _⟩ | ⟨g, cap, cur, rfl, hbase, hh, hn1, hn2, hn3, hn4⟩
  · have := (hnil.1 he).1
    cases this
  have hgs : g = m.at_ p ∨ g = w.heap.size := by
    rcases hat with h | h
    · injection h with h; exact .inl h
    · injection h with h; exact .inr h
  have hplt := s.heap.at_lt hob hlive
  have hother : ∀ q, q < w.heap.size → q ≠ m.at_ p → w'.heap[q]? = w.heap[q]? := fun q hq hne => hg.block q hq (by simp [Value.ownBlock, hne])
  have hz : vol m S.ob Zc (m.at_ p) := .inr ⟨p, b, hob, hlive, hfz, rfl⟩
  have hnew : S.ob (nm, S.cnt nm) = none := s.heap.fresh nm _ (Nat.le_refl _)
  have hpn : p ≠ (nm, S.cnt nm) := by
    rintro rfl
    rw [hnew] at hob
    cases hob
  let ob' := upd (upd S.ob p (some { b with live := false })) (nm, S.cnt nm) (some (⟨true, true, false, i.size, b.n + k, e, b.cells ++ ts⟩ : Ob))
  have hobq : ∀ q, q ≠ p → q ≠ (nm, S.cnt nm) → ob' q = S.ob q := fun q h1 h2 => by simp [ob', upd_ne, h1, h2]
  have hobp : ob' p = some { b with live := false } := by simp [ob', upd_ne _ _ hpn, upd_same]
  have hobn : ob' (nm, S.cnt nm) = some (⟨true, true, false, i.size, b.n + k, e, b.cells ++ ts⟩ : Ob) := by simp [ob', upd_same]
  let m' := m.set (nm, S.cnt nm) g cap
  have hat' : ∀ q, q ≠ (nm, S.cnt nm) → m'.at_ q = m.at_ q := fun q hq => upd_ne _ _ hq
  have hcap' : ∀ q, q ≠ (nm, S.cnt nm) → m'.cap q = m.cap q := fun q hq => upd_ne _ _ hq
  have hatn : m'.at_ (nm, S.cnt nm) = g := upd_same ..
  have hcapn : m'.cap (nm, S.cnt nm) = cap := upd_same ..
  have hnen : ∀ q, S.ob q ≠ none → q ≠ (nm, S.cnt nm) := fun q hq e => hq (e ▸ hnew)
  have red : ∀ q x, ob' q = some x → x.live = true → q = (nm, S.cnt nm) ∨ (q ≠ p ∧ q ≠ (nm, S.cnt nm) ∧ S.ob q = some x) := by
    intro q x hq hxl
    by_cases h1 : q = (nm, S.cnt nm)
    · exact .inl h1
    · by_cases h2 : q = p
      · subst h2
        rw [hobp] at hq
        injection hq with hq
        subst hq
        cases hxl
      · rw [hobq q h2 h1] at hq
        exact .inr ⟨h2, h1, hq⟩
  have ex : Ext w (vol m S.ob Zc) m S.ob w' (vol m' ob' Zc) m' ob' := by
    refine ⟨⟨fun q hq hlt => hother q hlt (fun e => hq (e ▸ hz)), fun q hlt hq => ?_, hg.size⟩, fun q hq => hat' q (hnen q hq), fun q hq => hcap' q (hnen q hq), fun q x hq => ?_⟩
    · rcases hq with hq | ⟨r, x, hr1, hxl, hxf, he⟩
      · exact .inl hq
      · rcases red r x hr1 hxl with e1 | ⟨e1, e2, e3⟩
        · subst e1
          rw [hatn] at he
          rcases hgs with e2 | e2
          · exact .inr ⟨p, b, hob, hlive, hfz, by omega⟩
          · omega
        · exact .inr ⟨r, x, e3, hxl, hxf, by rw [← hat' r e2]; exact he⟩
    · by_cases e2 : q = p
      · subst e2
        rw [hob] at hq
        injection hq with hq
        subst hq
        exact ⟨_, hobp, rfl, rfl⟩
      · exact ⟨x, by rw [hobq q e2 (hnen q (by rw [hq]; simp))]; exact hq, rfl, rfl⟩
  have hbw : Below w0.heap.size w w' := ⟨hg.os, hg.tape, hg.output, hg.size, fun q hq => hother q (by have := s.heap.size; omega) (by omega)⟩
  have hcl : L1R w (vol m S.ob Zc) m S.ob (b.cells ++ ts) (arr.toList.take b.cells.length ++ us) := hold.append hlt.1
  refine ⟨_, _, w', m', hr, .inl rfl, (show HR w0 Zc m' ob' (upd S.cnt nm (S.cnt nm + 1)) w' from ⟨s.heap.below.trans hbw, s.heap.zc, fun q h hq => ?_, fun q x hq hxl => ?_, fun q x q' x' hq hxl hq' hxl' he => ?_⟩), ex, ?_⟩
  · by_cases e1 : q = nm
    · subst e1
      rw [upd_same] at hq
      have hn2 := s.heap.fresh q h (by omega)
      rw [hobq _ (by rintro rfl; rw [hn2] at hob; cases hob) (by intro e2; injection e2; omega)]
      exact hn2
    · rw [upd_ne _ _ e1] at hq
      have hn2 := s.heap.fresh q h hq
      rw [hobq _ (by rintro rfl; rw [hn2] at hob; cases hob) (by intro e2; injection e2; exact e1 (by assumption))]
      exact hn2
  · rcases red q x hq hxl with e1 | ⟨e1, e2, e3⟩
    · subst e1
      rw [hobn] at hq
      injection hq with hq
      subst hq
      refine ⟨by rw [hatn]; exact hbase, cur, by rw [hatn]; exact hh, ?_, fun j v hv => ?_⟩
      · simp only [if_true]
        rw [hcapn]
        refine ⟨hn3, hn1, hn2, by rw [List.length_append, hlen, g2.2.2.2.1, Nat.add_mul], hpos, fun v hv => ?_⟩
        rcases List.mem_append.1 hv with hv | hv
        · exact g2.2.2.2.2.2 v hv
        · exact hlt.2 v hv
      · obtain ⟨u, h1, h2⟩ := cur_of_take hcl hn4 j v hv
        exact ⟨u, h1, V1R.one h2, V1R.ext ex h2⟩
    · have hne : m.at_ q ≠ m.at_ p := fun h => e1 (s.heap.inj q x p b e3 hxl hob hlive h)
      exact OR.ext ex (by rw [e3]; simp) (hother _ (s.heap.at_lt e3 hxl) hne) (s.heap.obs q x e3 hxl)
  · rcases red q x hq hxl with e1 | ⟨e1, e2, e3⟩ <;> rcases red q' x' hq' hxl' with f1 | ⟨f1, f2, f3⟩
    · rw [e1, f1]
    · exfalso
      subst e1
      rw [hatn, hat' q' f2] at he
      have h1 := s.heap.at_lt f3 hxl'
      rcases hgs with h | h
      · exact f1 (s.heap.inj q' x' p b f3 hxl' hob hlive (by omega))
      · omega
    · exfalso
      subst f1
      rw [hatn, hat' q e2] at he
      have h1 := s.heap.at_lt e3 hxl
      rcases hgs with h | h
      · exact e1 (s.heap.inj q x p b e3 hxl hob hlive (by omega))
      · omega
    · rw [hat' q e2, hat' q' f2] at he
      exact s.heap.inj q x q' x' e3 hxl f3 hxl' he
  · exact ⟨_, hobn, rfl, by rw [hatn, hcapn]⟩

theorem go_mkfn {f : FuncId} {caps : Array Operand} {l : List Arg} {ns : List Nm} (s : Sim w0 I Zc N m S a w) (ho : o.op = .makeFunc (.func f) #[] caps) (hl : cArgs caps.toList = some l)
    (hn : l.mapM (fun c => match c.ev S with | .one (.ptr o 0) => some o | _ => none) = some ns) : Goes P o a w w0 Zc m S (S.val (.one (.fn f ns))) := by
  have key : ∀ (cs : List Operand) (l : List Arg) (ns : List Nm), cArgs cs = some l → l.mapM (fun c => match c.ev S with | .one (.ptr o 0) => some o | _ => none) = some ns →
      (∀ o ∈ ns, S.ob o ≠ none) ∧ cs.map a.eval = ns.map (ptrV m) := by
    intro cs
    induction cs with
    | nil =>
      intro l ns h1 h2
      injection h1 with h1; subst h1
      simp at h2
      subst h2
      exact ⟨fun o ho => (by cases ho), rfl⟩
    | cons c cs ih =>
      intro l ns h1 h2
      simp only [cArgs, Option.bind_eq_some_iff, Option.map_eq_some_iff] at h1
      obtain ⟨y, hy, ys, hys, rfl⟩ := h1
      simp only [List.mapM_cons, Option.bind_eq_bind, Option.bind_eq_some_iff, Option.pure_def, Option.some.injEq] at h2
      obtain ⟨n, hn, ns', hns, rfl⟩ := h2
      obtain ⟨i1, i2⟩ := ih ys ns' hys hns
      have h := arg_spec s hy
      split at hn
      · rename_i p hp
        injection hn with hn
        subst hn
        rw [hp] at h
        refine ⟨fun o ho => ?_, ?_⟩
        · rcases List.mem_cons.1 ho with rfl | ho
          · exact h.1
          · exact i1 o ho
        · rw [List.map_cons, List.map_cons, i2, h.2]
          rfl
      · cases hn
  obtain ⟨h1, h2⟩ := key _ l ns hl hn
  refine goes_val s (u := .func (.func f) #[] (caps.map a.eval)) (by simp [execOp, ho, Instr.makeFunc]) ⟨h1, ?_⟩
  rw [← h2]
  congr 1
  apply Array.ext'
  simp
end ops
end Go.Proofs.YthcnpnogfblkcaaGreat.Abs

/- Go's operations come to the small code, and do what it says. -/
namespace Go.Proofs.YthcnpnogfblkcaaGreat.Abs
open Go.RowKit
set_option linter.unusedVariables false
set_option linter.unusedSimpArgs false

/-- A struct of whole numbers alone, one cell each, in order. -/
def eqOK (P : Program) : Nat → List Field → Bool
  | _, [] => true
  | i, f :: r => (f.name != "_") && (f.offset == i) && (match P.underlying f.type with | some (.int _) => true | _ => false) && eqOK P (i + 1) r

def intV (x : IntKind × Int) : Value := .int x.1 x.2

theorem eqFields_spec {P : Program} {w : World} (d : Nat) (p q : List (IntKind × Int)) (hk : p.map (·.1) = q.map (·.1)) : ∀ (fs : List Field) (i : Nat), eqOK P i fs = true → i + fs.length = p.length →
    (Op.eqFields (d + 1) (p.map intV).toArray (q.map intV).toArray fs).run P w = .ok (decide ((p.drop i).map (·.2) = (q.drop i).map (·.2))) w
  | [], i, _, hl => by
    have hpq : p.length = q.length := by simpa using congrArg List.length hk
    simp only [List.length_nil, Nat.add_zero] at hl
    rw [List.drop_eq_nil_of_le (by omega), List.drop_eq_nil_of_le (by omega)]
    simp [Op.eqFields]
  | f :: r, i, h, hl => by
    have hpq : p.length = q.length := by simpa using congrArg List.length hk
    simp only [List.length_cons] at hl
    simp only [eqOK, Bool.and_eq_true, beq_iff_eq, bne_iff_ne] at h
    obtain ⟨⟨⟨hn, ho⟩, hu⟩, hr⟩ := h
    have ih := eqFields_spec (w := w) d p q hk r (i + 1) hr (by omega)
    have hip : i < p.length := by omega
    have hiq : i < q.length := by omega
    split at hu
    · rename_i k hue
      have hagg : aggB P f.type = some false := by simp [aggB, hue]
      have hpart : ∀ (l : List (IntKind × Int)) (hl : i < l.length), (part f.type (l.map intV).toArray f.offset).run P w = .ok (intV l[i]) w := by
        intro l hl
        simp [part, run_isAgg_of hagg, ho, hl]
      have hkk : p[i].1 = q[i].1 := by
        have := congrArg (fun l : List IntKind => l[i]?) hk
        simpa [hip, hiq] using this
      rw [Op.eqFields]
      simp only [if_pos hn, Sem.run_bind, hpart p hip, hpart q hiq, Result.andThen_ok]
      have he : (Op.equalIn (d + 1) f.type (intV p[i]) (intV q[i])).run P w = .ok (p[i].2 == q[i].2) w := by
        simp [intV, Op.equalIn, run_underlying hue, hkk]
      simp only [he, Result.andThen_ok]
      rw [List.drop_eq_getElem_cons hip, List.drop_eq_getElem_cons hiq]
      by_cases e : p[i].2 = q[i].2
      · simp only [e, beq_self_eq_true, Bool.not_true, Bool.false_eq_true, if_false, ih, List.map_cons, List.cons.injEq, true_and]
      · have e1 : (p[i].2 == q[i].2) = false := by simpa using e
        have e2 : decide ((p[i] :: p.drop (i + 1)).map (·.2) = (q[i] :: q.drop (i + 1)).map (·.2)) = false := decide_eq_false (by rw [List.map_cons, List.map_cons]; intro h; injection h with h _; exact e h)
        rw [e1, e2]
        rfl
    · cases hu

section ops
variable {P : Program} {o : Oper} {a : Act} {w w0 : World} {I : Ini} {Zc : Nat → Prop} {N : Nat} {m : Map} {S : St}

theorem intsOf_spec {w : World} {Z : Nat → Prop} {m : Map} {ob : Nm → Option Ob} : ∀ {xs : List V1} {us : List Value} {p : List (IntKind × Int)}, intsOf xs = some p → L1R w Z m ob xs us → us = p.map intV
  | [], us, p, h, hl => by
    injection h with h; subst h
    exact List.eq_nil_of_length_eq_zero hl.1.symm
  | v :: r, us, p, h, hl => by
    cases us with
    | nil => exact absurd hl.1 (by simp)
    | cons u us =>
      have h0 := hl.2 0 v u rfl rfl
      unfold intsOf at h
      split at h
      · cases ‹v :: r = []›
      · rename_i k n r' e
        injection e with e1 e2
        subst e1 e2
        simp only [Option.map_eq_some_iff] at h
        obtain ⟨p', hp, rfl⟩ := h
        have ih := intsOf_spec (w := w) (Z := Z) (m := m) (ob := ob) (us := us) hp ⟨by simpa using hl.1, fun j a b ha hb => hl.2 (j + 1) a b (by simpa using ha) (by simpa using hb)⟩
        rw [ih, List.map_cons]
        cases (show CR w Z (.int k n) u from h0)
        rfl
      · cases h

theorem go_eqS {op : BinOp} {t t' : TypeId} {x y : Operand} {x' y' : Arg} {fields : Array Field} {xs ys : List V1} {p q : List (IntKind × Int)} (s : Sim w0 I Zc N m S a w) (hop : op = .eql ∨ op = .neq) (ho : o.op = .binOp op t x y t') (hx : cArg x = some x') (hy : cArg y = some y')
    (ht : P.underlying t = some (.struct fields)) (hs : P.stoodInHeld t = false) (hg : P.eqGuardType P.depth t = false) (hok : eqOK P 0 fields.toList = true) (hlen : p.length = fields.size)
    (h1 : x'.ev S = .agg xs) (h2 : y'.ev S = .agg ys) (hp : intsOf xs = some p) (hq : intsOf ys = some q) (hk : p.map (·.1) = q.map (·.1)) :
    Goes P o a w w0 Zc m S (S.val (.one (.t (.bool (if op = .neq then !decide (p.map (·.2) = q.map (·.2)) else decide (p.map (·.2) = q.map (·.2))))))) := by
  have e1 := arg_spec s hx
  rw [h1] at e1
  obtain ⟨us, e1, l1⟩ := e1
  have e2 := arg_spec s hy
  rw [h2] at e2
  obtain ⟨vs, e2, l2⟩ := e2
  have u1 : us = (p.map intV).toArray := by rw [← intsOf_spec hp l1]
  have u2 : vs = (q.map intV).toArray := by rw [← intsOf_spec hq l2]
  subst u1 u2
  have hf : P.fieldsOf t = fields := by simp [Program.fieldsOf, ht]
  have heq : (Op.equal t (.agg (p.map intV).toArray) (.agg (q.map intV).toArray)).run P w = .ok (decide (p.map (·.2) = q.map (·.2))) w := by
    unfold Op.equal
    rw [show Op.maxDepth = 9998 + 1 + 1 from rfl, run_equalIn_struct (P := P) w _ t _ _ (by rw [hf]; exact ht) hs, hf]
    have := eqFields_spec (P := P) (w := w) 9998 p q hk fields.toList 0 hok (by simpa using hlen.symm)
    simpa using this
  have hgd : ∀ op, (eqGuard op t x y (.agg (p.map intV).toArray) (.agg (q.map intV).toArray)).run P w = .ok () w := by
    intro op
    cases op <;> simp [eqGuard, hg]
  rcases hop with rfl | rfl
  · refine goes_val s (u := .bool (decide (p.map (·.2) = q.map (·.2)))) ?_ (CR.bool _)
    simp only [execOp, ho, e1, e2, Sem.run_bind, hgd, Result.andThen_ok, binOp, heq, Sem.run_pure]
  · refine goes_val s (u := .bool (!decide (p.map (·.2) = q.map (·.2)))) ?_ (CR.bool _)
    simp only [execOp, ho, e1, e2, Sem.run_bind, hgd, Result.andThen_ok, binOp, heq, Sem.run_pure]

theorem go_eqB {op : BinOp} {t t' : TypeId} {x y : Operand} {x' y' : Arg} {p q : Bool} (s : Sim w0 I Zc N m S a w) (hop : op = .eql ∨ op = .neq) (ho : o.op = .binOp op t x y t') (hx : cArg x = some x') (hy : cArg y = some y')
    (ht : P.underlying t = some .bool) (h1 : x'.ev S = .one (.t (.bool p))) (h2 : y'.ev S = .one (.t (.bool q))) :
    Goes P o a w w0 Zc m S (S.val (.one (.t (.bool (if op = .neq then !(p == q) else p == q))))) := by
  have e1 := arg_spec s hx
  rw [h1] at e1
  have e2 := arg_spec s hy
  rw [h2] at e2
  have e1 := one_bool e1
  have e2 := one_bool e2
  have heq : (Op.equal t (.bool p) (.bool q)).run P w = .ok (p == q) w := by
    unfold Op.equal
    rw [show Op.maxDepth = 9999 + 1 from rfl, run_equalIn_bool w 9999 t p q ht]
  have hgd : ∀ op, (eqGuard op t x y (.bool p) (.bool q)).run P w = .ok () w := by
    intro op
    cases op <;> simp [eqGuard]
  rcases hop with rfl | rfl
  · refine goes_val s (u := .bool (p == q)) ?_ (CR.bool _)
    simp only [execOp, ho, e1, e2, Sem.run_bind, hgd, Result.andThen_ok, binOp, heq, Sem.run_pure]
  · refine goes_val s (u := .bool (!(p == q))) ?_ (CR.bool _)
    simp only [execOp, ho, e1, e2, Sem.run_bind, hgd, Result.andThen_ok, binOp, heq, Sem.run_pure]
end ops
end Go.Proofs.YthcnpnogfblkcaaGreat.Abs

/- How an operation of Go's is compiled, and that its effect is the world's. -/
namespace Go.Proofs.YthcnpnogfblkcaaGreat.Abs
open Go.RowKit
set_option linter.unusedVariables false
set_option linter.unusedSimpArgs false

def allTree (l : List V1) : Bool := l.all fun v => match v with | .t _ => true | _ => false

/-- What is known of a slice's element type. -/
def cElem (P : Program) (t : TypeId) : Option (TypeId × TypeInfo × Value) := match P.underlying t with
  | some (.slice e) => (P.info? e).bind fun i => i.zero.bind fun z => if z.cells.size = i.size ∧ 0 < i.size then some (e, i, z) else none
  | _ => none

def cBuiltin (P : Program) (nm : Nat) (b : Builtin) (ts : List TypeId) (xs : List Operand) : Option MOp := match b, ts, xs with
  | .len, [t], [x] => match P.underlying t with
    | some (.slice _) => (cArg x).map .len
    | _ => none
  | .append, [t, t'], [x, y] => if t = t' then (cElem P t).bind fun e => (cArg x).bind fun x => (cArg y).map fun y => .append nm e.1 e.2.1.size e.2.1.bytes x y else none
  | .max, [_, _], [x, y] => (cArg x).bind fun x => (cArg y).map fun y => .minmax true x y
  | .min, [_, _], [x, y] => (cArg x).bind fun x => (cArg y).map fun y => .minmax false x y
  | _, _, _ => none

def cCall (P : Program) (nm : Nat) (c : Call) : Option MOp := match c.callee with
  | .builtin b => cBuiltin P nm b c.argTypes.toList c.args.toList
  | .value f => (cArg f).bind fun f => (cArgs c.args.toList).map (.call f nm)
  | _ => none

def cOp (P : Program) (nm : Nat) (o : Oper) : Option MOp := match o.op with
  | .move x => (cArg x).map .mv
  | .assign x => (cArg x).map .mv
  | .pick c a b => (cArg c).bind fun c => (cArg a).bind fun a => (cArg b).map fun b => .pick c a b
  | .alloc e => (zeroOf P e).map (.alloc nm e)
  | .box e x => (cArg x).map (.box nm e)
  | .build t parts => match P.underlying t with
    | some (.struct fields) => (zeroOf P t).bind fun z => (fields.toList.mapM (fun f => (P.info? f.type).map fun i => (f.offset, i.size))).bind fun pl => (cParts (pl.toArray[·]?) parts.toList).map (.build z)
    | _ => none
  | .buildSlice t len parts => (cElem P t).bind fun e => if len * e.2.1.size ≤ 2 ^ 24 then
      (v1s ((Array.range (len * e.2.1.size)).map (e.2.2.cells[· % e.2.2.cells.size]!)).toList).bind fun z => (cParts (fun i => some (i * e.2.1.size, e.2.1.size)) parts.toList).map (.mkrow nm e.1 e.2.1.size len z) else none
  | .load t x => (aggB P t).bind fun b => if b then (sizeB P t).bind fun n => (cArg x).map (.load true n) else (cArg x).map (.load false 1)
  | .store t x y => (sizeB P t).bind fun n => (cArg x).bind fun x => (cArg y).map fun y => .store n x y
  | .nilCheck x => (cArg x).map .nilck
  | .binOp .eql t x (.const (.slice none 0 0)) _ => match P.underlying t with
    | some (.slice _) => (cArg x).map (.isnil false)
    | _ => none
  | .binOp .neq t x (.const (.slice none 0 0)) _ => match P.underlying t with
    | some (.slice _) => (cArg x).map (.isnil true)
    | _ => none
  | .binOp op t x y _ => (cArg x).bind fun x => (cArg y).bind fun y => match P.underlying t with
    | some .bool => match op with
      | .eql => some (.eqS false 0 x y)
      | .neq => some (.eqS true 0 x y)
      | _ => none
    | some (.struct fields) => if P.stoodInHeld t = false ∧ P.eqGuardType P.depth t = false ∧ eqOK P 0 fields.toList = true ∧ fields.size ≠ 0 then (match op with | .eql => some (.eqS false fields.size x y) | .neq => some (.eqS true fields.size x y) | _ => none) else none
    | _ => some (.bin op x y)
  | .unOp .not _ x => (cArg x).map .not
  | .convert t t' x => match P.underlying t, P.underlying t' with
    | some _, some (.int k) => (cArg x).map (.conv k)
    | _, _ => none
  | .makeFunc (.func f) first caps => if first.size = 0 then (cArgs caps.toList).map (.mkfn f) else none
  | .makeSlice t l c => (cElem P t).bind fun e => (v1s e.2.2.cells.toList).bind fun z => if allTree z then (cArg l).bind fun l => (cArg c).map fun c => .make nm e.1 e.2.1.size e.2.1.bytes z l c else none
  | .fieldAddr t x i => match P.underlying t with
    | some (.struct fields) => (fields[i]?).bind fun f => (sizeB P f.type).bind fun n => if n = 0 then none else (cArg x).map (.fieldA f.offset)
    | _ => none
  | .indexAddr t x i => match P.underlying t with
    | some (.slice e) => (sizeB P e).bind fun n => (cArg x).bind fun x => (cArg i).map fun i => .idxA n x i
    | some (.array len e) => (sizeB P e).bind fun n => (cArg x).bind fun x => (cArg i).map fun i => .idxArr len n x i
    | _ => none
  | .extract x i => (cArg x).map (.extract · i)
  | .call c => cCall P nm c
  | .panic _ => some (.nilck (.c .undef))
  | .makeInterface _ _ => some (.nilck (.c .undef))
  | _ => none

theorem cElem_spec {P : Program} {t : TypeId} {x : TypeId × TypeInfo × Value} (h : cElem P t = some x) :
    P.underlying t = some (.slice x.1) ∧ P.info? x.1 = some x.2.1 ∧ x.2.1.zero = some x.2.2 ∧ x.2.2.cells.size = x.2.1.size ∧ 0 < x.2.1.size := by
  unfold cElem at h
  split at h
  · rename_i e he
    simp only [Option.bind_eq_some_iff] at h
    obtain ⟨i, hi, z, hz, h⟩ := h
    split at h
    · rename_i hc
      injection h with h
      subst h
      exact ⟨he, hi, hz, hc.1, hc.2⟩
    · cases h
  · cases h

theorem sizeB_of {P : Program} {t : TypeId} {i : TypeInfo} (h : P.info? t = some i) : sizeB P t = some i.size := by simp [sizeB, h]

section
variable {P : Program} {o : Oper} {a : Act} {w w0 : World} {I : Ini} {Zc : Nat → Prop} {N : Nat} {m : Map} {S : St}

set_option maxHeartbeats 1000000 in
theorem op_goes {nm : Nat} {mo : MOp} {E : Eff} (s : Sim w0 I Zc N m S a w) (hc : cOp P nm o = some mo) (he : evOp S mo = some E) : Goes P o a w w0 Zc m S E := by
  unfold cOp at hc
  split at hc
  · rename_i x ho
    simp only [Option.map_eq_some_iff] at hc
    obtain ⟨y, hy, rfl⟩ := hc
    injection he with he; subst he
    exact go_mv s (.inl ho) hy
  · rename_i x ho
    simp only [Option.map_eq_some_iff] at hc
    obtain ⟨y, hy, rfl⟩ := hc
    injection he with he; subst he
    exact go_mv s (.inr ho) hy
  · rename_i c x y ho
    simp only [Option.bind_eq_some_iff, Option.map_eq_some_iff] at hc
    obtain ⟨c', hc', x', hx', y', hy', rfl⟩ := hc
    simp only [evOp] at he
    split at he
    · rename_i t ht
      injection he with he; subst he
      exact go_pick s ho hc' hx' hy' ht
    · cases he
  · rename_i e ho
    simp only [Option.map_eq_some_iff] at hc
    obtain ⟨z, hz, rfl⟩ := hc
    injection he with he; subst he
    exact go_alloc s ho hz
  · rename_i e x ho
    simp only [Option.map_eq_some_iff] at hc
    obtain ⟨y, hy, rfl⟩ := hc
    simp only [evOp] at he
    split at he
    · rename_i vs hvs
      injection he with he; subst he
      exact go_box s ho hy hvs
    · cases he
  · rename_i t parts ho
    split at hc
    · rename_i fields hu
      simp only [Option.bind_eq_some_iff, Option.map_eq_some_iff] at hc
      obtain ⟨z, hz, pl, hpl, ps, hps, rfl⟩ := hc
      simp only [evOp] at he
      split at he
      · rename_i vs hvs
        injection he with he; subst he
        exact go_build s ho hz hu hpl hps hvs
      · cases he
    · cases hc
  · rename_i t len parts ho
    simp only [Option.bind_eq_some_iff] at hc
    obtain ⟨e, hel, hc⟩ := hc
    obtain ⟨h1, h2, h3, h4, h5⟩ := cElem_spec hel
    split at hc
    · rename_i hmax
      simp only [Option.bind_eq_some_iff, Option.map_eq_some_iff] at hc
      obtain ⟨z, hz, ps, hps, rfl⟩ := hc
      simp only [evOp] at he
      split at he
      · rename_i vs hvs
        split at he
        · rename_i ts hts
          have := go_mkrow s (nm := nm) ho h1 h2 rfl h5 h3 h4 hmax hz hps hvs hts
          split at he
          · rename_i hl
            rw [if_pos hl] at this
            injection he with he; subst he
            exact this
          · rename_i hl
            rw [if_neg hl] at this
            injection he with he; subst he
            exact this
        · cases he
      · cases he
    · cases hc
  · rename_i t x ho
    simp only [Option.bind_eq_some_iff] at hc
    obtain ⟨b, hb, hc⟩ := hc
    cases b with
    | true =>
      simp only [if_true, Option.bind_eq_some_iff, Option.map_eq_some_iff] at hc
      obtain ⟨n, hn, y, hy, rfl⟩ := hc
      simp only [evOp] at he
      split at he
      · rename_i vs hvs
        injection he with he; subst he
        exact go_load_agg s ho hy hb hn hvs
      · cases he
    | false =>
      simp only [Bool.false_eq_true, if_false, Option.map_eq_some_iff] at hc
      obtain ⟨y, hy, rfl⟩ := hc
      simp only [evOp] at he
      split at he
      · rename_i vs hvs
        simp only [Bool.false_eq_true, if_false] at he
        split at he
        · injection he with he; subst he
          exact go_load_one s ho hy hb hvs
        · cases he
      · cases he
  · rename_i t x y ho
    simp only [Option.bind_eq_some_iff, Option.map_eq_some_iff] at hc
    obtain ⟨n, hn, x', hx', y', hy', rfl⟩ := hc
    simp only [evOp] at he
    split at he
    · rename_i p off vs hp hvs
      split at he
      · rename_i b hb
        split at he
        · rename_i hcond
          split at he
          · rename_i hrow
            split at he
            · rename_i ts hts
              injection he with he; subst he
              exact go_store s ho hx' hy' hn hp hvs hb hcond.1 hcond.2.1 hcond.2.2 (by rw [if_pos hrow]; exact hts)
            · cases he
          · rename_i hrow
            injection he with he; subst he
            exact go_store s ho hx' hy' hn hp hvs hb hcond.1 hcond.2.1 hcond.2.2 (by rw [if_neg hrow])
        · cases he
      · cases he
    · cases he
  · rename_i x ho
    simp only [Option.map_eq_some_iff] at hc
    obtain ⟨y, hy, rfl⟩ := hc
    simp only [evOp] at he
    split at he
    · rename_i hv
      injection he with he; subst he
      exact go_nilck s ho hy hv (.inl ⟨_, _, rfl⟩)
    · rename_i hv
      injection he with he; subst he
      exact go_nilck s ho hy hv (.inr (.inl ⟨_, rfl⟩))
    · rename_i hv
      injection he with he; subst he
      exact go_nilck s ho hy hv (.inr (.inr ⟨_, _, rfl⟩))
    · cases he
  · split at hc
    · simp only [Option.map_eq_some_iff] at hc
      obtain ⟨y, hy, rfl⟩ := hc
      cases he
    · cases hc
  · split at hc
    · simp only [Option.map_eq_some_iff] at hc
      obtain ⟨y, hy, rfl⟩ := hc
      cases he
    · cases hc
  · rename_i op t x y t' _ _ ho
    simp only [Option.bind_eq_some_iff] at hc
    obtain ⟨x', hx', y', hy', hc⟩ := hc
    split at hc
    · rename_i hu
      have fin : ∀ (neg : Bool), op = (if neg then .neq else .eql) → evOp S (.eqS neg 0 x' y') = some E → Goes P o a w w0 Zc m S E := by
        intro neg hop he
        simp only [evOp] at he
        split at he
        · split at he
          · split at he
            · rename_i hk
              exact absurd rfl hk.2.2
            · cases he
          · cases he
        · rename_i p q h1 h2
          rw [if_pos trivial] at he
          injection he with he; subst he
          have := go_eqB s (by cases neg <;> simp [hop]) ho hx' hy' hu h1 h2
          cases neg <;> simpa [hop] using this
        · cases he
      split at hc
      · injection hc with hc; subst hc
        exact fin false rfl he
      · injection hc with hc; subst hc
        exact fin true rfl he
      · cases hc
    · rename_i fields hu
      split at hc
      · rename_i hcond
        have fin : ∀ (neg : Bool), op = (if neg then .neq else .eql) → evOp S (.eqS neg fields.size x' y') = some E → Goes P o a w w0 Zc m S E := by
          intro neg hop he
          simp only [evOp] at he
          split at he
          · rename_i xs ys h1 h2
            split at he
            · rename_i p q hp hq
              split at he
              · rename_i hk
                injection he with he; subst he
                have := go_eqS s (by cases neg <;> simp [hop]) ho hx' hy' hu hcond.1 hcond.2.1 hcond.2.2.1 hk.1 h1 h2 hp hq hk.2.1
                cases neg <;> simpa [hop] using this
              · cases he
            · cases he
          · rw [if_neg hcond.2.2.2] at he
            cases he
          · cases he
        split at hc
        · injection hc with hc; subst hc
          exact fin false rfl he
        · injection hc with hc; subst hc
          exact fin true rfl he
        · cases hc
      · cases hc
    · injection hc with hc; subst hc
      simp only [evOp] at he
      split at he
      · rename_i k p k' q h1 h2
        split at he
        · rename_i v hv
          injection he with he; subst he
          exact go_bin s ho hx' hy' h1 h2 hv
        · cases he
      · cases he
  · rename_i t x ho
    simp only [Option.map_eq_some_iff] at hc
    obtain ⟨y, hy, rfl⟩ := hc
    simp only [evOp] at he
    split at he
    · rename_i hv
      injection he with he; subst he
      exact go_not s ho hy hv
    · cases he
  · rename_i t t' x ho
    split at hc
    · rename_i k h1 h2
      simp only [Option.map_eq_some_iff] at hc
      obtain ⟨y, hy, rfl⟩ := hc
      simp only [evOp] at he
      split at he
      · rename_i hv
        injection he with he; subst he
        exact go_conv s ho hy (by rw [h1]; rfl) h2 hv
      · cases he
    · cases hc
  · rename_i f first caps ho
    split at hc
    · rename_i hf
      simp only [Option.map_eq_some_iff] at hc
      obtain ⟨l, hl, rfl⟩ := hc
      have hf : first = #[] := Array.eq_empty_of_size_eq_zero hf
      subst hf
      simp only [evOp] at he
      split at he
      · rename_i ns hns
        injection he with he; subst he
        exact go_mkfn s ho hl hns
      · cases he
    · cases hc
  · rename_i t l c ho
    simp only [Option.bind_eq_some_iff] at hc
    obtain ⟨e, hel, z, hz, hc⟩ := hc
    obtain ⟨h1, h2, h3, h4, h5⟩ := cElem_spec hel
    split at hc
    · rename_i hall
      simp only [Option.bind_eq_some_iff, Option.map_eq_some_iff] at hc
      obtain ⟨l', hl', c', hc', rfl⟩ := hc
      simp only [evOp] at he
      split at he
      · rename_i k p k' q e1 e2
        split at he
        · rename_i hcond
          injection he with he; subst he
          obtain ⟨rfl, h0, hb, hm⟩ := hcond
          have hp : (p.toNat : Int) = p := Int.toNat_of_nonneg h0
          refine go_make s ho hl' hc' h1 h2 rfl rfl h5 h3 h4 hz (fun v hv => ?_) (by rw [hp]; exact e1) (by rw [hp]; exact e2) hb (by omega)
          have := List.all_eq_true.1 hall v hv
          split at this
          · exact ⟨_, rfl⟩
          · cases this
        · cases he
      · cases he
    · cases hc
  · rename_i t x i ho
    split at hc
    · rename_i fields hu
      simp only [Option.bind_eq_some_iff] at hc
      obtain ⟨f, hf, n, hn, hc⟩ := hc
      split at hc
      · cases hc
      · rename_i hn0
        simp only [Option.map_eq_some_iff] at hc
        obtain ⟨y, hy, rfl⟩ := hc
        simp only [evOp] at he
        split at he
        · rename_i hv
          injection he with he; subst he
          exact go_fieldA s ho hy hu hf hn hn0 hv (.inl ⟨_, _, rfl, rfl⟩)
        · rename_i hv
          injection he with he; subst he
          exact go_fieldA s ho hy hu hf hn hn0 hv (.inr ⟨_, rfl, rfl⟩)
        · cases he
    · cases hc
  · rename_i t x i ho
    split at hc
    · rename_i e hu
      simp only [Option.bind_eq_some_iff, Option.map_eq_some_iff] at hc
      obtain ⟨n, hn, x', hx', i', hi', rfl⟩ := hc
      simp only [evOp] at he
      split at he
      · rename_i k j h2
        split at he
        · rename_i n' cs h1
          split at he
          · rename_i hcond
            injection he with he; subst he
            exact go_idx_pro s ho hx' hi' hu hn h1 h2 hcond.1 hcond.2.1 hcond.2.2
          · cases he
        · rename_i p h1
          split at he
          · rename_i y hy
            split at he
            · rename_i hcond
              injection he with he; subst he
              exact go_idx_row s ho hx' hi' hu hn h1 hy h2 hcond.1 hcond.2
            · cases he
          · cases he
        · cases he
      · cases he
    · rename_i len e hu
      simp only [Option.bind_eq_some_iff, Option.map_eq_some_iff] at hc
      obtain ⟨n, hn, x', hx', i', hi', rfl⟩ := hc
      simp only [evOp] at he
      split at he
      · rename_i k j h2
        split at he
        · rename_i hcond
          split at he
          · rename_i p off h1
            injection he with he; subst he
            exact go_idxArr s ho hx' hi' hu hn h1 h2 hcond.1 hcond.2 (.inl ⟨_, _, rfl, rfl⟩)
          · rename_i cs h1
            injection he with he; subst he
            exact go_idxArr s ho hx' hi' hu hn h1 h2 hcond.1 hcond.2 (.inr ⟨_, rfl, rfl⟩)
          · cases he
        · cases he
      · cases he
    · cases hc
  · rename_i x i ho
    simp only [Option.map_eq_some_iff] at hc
    obtain ⟨y, hy, rfl⟩ := hc
    simp only [evOp] at he
    split at he
    · rename_i ss hss
      split at he
      · rename_i vs hvs
        injection he with he; subst he
        exact go_extract s ho hy hss (.inl ⟨_, hvs, rfl⟩)
      · rename_i v hv
        injection he with he; subst he
        exact go_extract s ho hy hss (.inr ⟨_, hv, rfl⟩)
      · cases he
    · cases he
  · rename_i c ho
    obtain ⟨callee, args, argTypes⟩ := c
    unfold cCall at hc
    split at hc
    · rename_i b hb
      simp only at hb hc
      subst hb
      unfold cBuiltin at hc
      split at hc
      · rename_i t x ht hx
        have hargs : args = #[x] := Array.toList_inj.1 hx
        have htys : argTypes = #[t] := Array.toList_inj.1 ht
        subst hargs htys
        split at hc
        · rename_i e hu
          simp only [Option.map_eq_some_iff] at hc
          obtain ⟨y, hy, rfl⟩ := hc
          simp only [evOp] at he
          split at he
          · rename_i n cs hcs
            injection he with he; subst he
            exact go_len s ho hy hu hcs
          · cases he
        · cases hc
      · rename_i t t' x y ht hx
        have hargs : args = #[x, y] := Array.toList_inj.1 hx
        have htys : argTypes = #[t, t'] := Array.toList_inj.1 ht
        subst hargs htys
        split at hc
        · rename_i htt
          subst htt
          simp only [Option.bind_eq_some_iff, Option.map_eq_some_iff] at hc
          obtain ⟨e, hel, x', hx', y', hy', rfl⟩ := hc
          obtain ⟨h1, h2, h3, h4, h5⟩ := cElem_spec hel
          simp only [evOp] at he
          split at he
          · rename_i k news hys
            split at he
            · rename_i ts hts
              split at he
              · rename_i hxe
                split at he
                · rename_i hcond
                  have := go_append_nil s (nm := nm) ho hx' hy' h1 h2 h5 h3 h4 hys hts hxe hcond.1 hcond.2.1 hcond.2.2
                  split at he
                  · rename_i hk
                    rw [if_pos hk] at this
                    injection he with he; subst he
                    exact this
                  · rename_i hk
                    rw [if_neg hk] at this
                    injection he with he; subst he
                    exact this
                · cases he
              · rename_i p hxe
                split at he
                · rename_i b hb
                  split at he
                  · rename_i hcond
                    obtain ⟨c1, c2, c3, c4, c5, c6, c7⟩ := hcond
                    injection he with he; subst he
                    exact go_append_row s ho hx' hy' h1 h2 h5 h3 h4 hys hts hxe hb c1 c2 c3 c4 c5 c6 c7
                  · cases he
                · cases he
              · cases he
            · cases he
          · cases he
        · cases hc
      · rename_i t t' x y ht hx
        have hargs : args = #[x, y] := Array.toList_inj.1 hx
        have htys : argTypes = #[t, t'] := Array.toList_inj.1 ht
        subst hargs htys
        simp only [Option.bind_eq_some_iff, Option.map_eq_some_iff] at hc
        obtain ⟨x', hx', y', hy', rfl⟩ := hc
        simp only [evOp] at he
        split at he
        · rename_i k p k' q h1 h2
          split at he
          · rename_i hk
            subst hk
            injection he with he; subst he
            refine go_minmax (b := true) s ho hx' hy' h1 h2 (fun ty W => ?_)
            simp only [if_true, run_max_int2]
            congr 2
            omega
          · cases he
        · cases he
      · rename_i t t' x y ht hx
        have hargs : args = #[x, y] := Array.toList_inj.1 hx
        have htys : argTypes = #[t, t'] := Array.toList_inj.1 ht
        subst hargs htys
        simp only [Option.bind_eq_some_iff, Option.map_eq_some_iff] at hc
        obtain ⟨x', hx', y', hy', rfl⟩ := hc
        simp only [evOp] at he
        split at he
        · rename_i k p k' q h1 h2
          split at he
          · rename_i hk
            subst hk
            injection he with he; subst he
            refine go_minmax (b := false) s ho hx' hy' h1 h2 (fun ty W => ?_)
            simp only [Bool.false_eq_true, if_false, run_min_int2]
            congr 2
            omega
          · cases he
        · cases he
      · cases hc
    · simp only [Option.bind_eq_some_iff, Option.map_eq_some_iff] at hc
      obtain ⟨f', hf', l, hl, rfl⟩ := hc
      cases he
    · cases hc
  · injection hc with hc; subst hc
    simp [evOp, Arg.ev] at he
  · injection hc with hc; subst hc
    simp [evOp, Arg.ev] at he
  · cases hc
end
end Go.Proofs.YthcnpnogfblkcaaGreat.Abs

/- Contracts of functions, over trees and over abstract states; the weakest precondition over the small code, and that it is sound. -/
namespace Go.Proofs.YthcnpnogfblkcaaGreat.Abs
open Go.RowKit
set_option linter.unusedVariables false
set_option linter.unusedSimpArgs false

/-- A value of trees alone: one cell, or an aggregate. -/
abbrev TV := Bool × List C

inductive TR where
  | sv (x : TV)
  | tup (l : List TV)

def TLR (w : World) (Z : Nat → Prop) (cs : List C) (us : List Value) : Prop := cs.length = us.length ∧ ∀ (j : Nat) c u, cs[j]? = some c → us[j]? = some u → CR w Z c u

def TVR (w : World) (Z : Nat → Prop) : TV → Value → Prop
  | (true, cs), v => ∃ us : Array Value, v = .agg us ∧ TLR w Z cs us.toList
  | (false, cs), v => ∃ c, cs = [c] ∧ CR w Z c v

def TRR (w : World) (Z : Nat → Prop) : TR → Value → Prop
  | .sv x, v => TVR w Z x v
  | .tup l, v => ∃ us : Array Value, v = .tuple us ∧ l.length = us.size ∧ ∀ (j : Nat) s u, l[j]? = some s → us[j]? = some u → TVR w Z s u

def callable (P : Program) (f : FuncId) : Bool := match P.funcs[f]? with
  | some fn => (fn.name != "runtime.NumGoroutine") && fn.body.isSome
  | none => false

/-- Called with what reads as these trees, the function returns what reads as that one; nothing that was there has changed. -/
def CallOK (P : Program) (f : FuncId) (args : List TV) (r : TR) : Prop := callable P f = true ∧
  ∀ (w : World) (Z : Nat → Prop) (cargs : Array Value), (∀ b, Z b → b < w.heap.size) → args.length = cargs.size →
    (∀ (j : Nat) s u, args[j]? = some s → cargs[j]? = some u → TVR w Z s u) →
    Calls P f cargs w fun e w' => ∃ v, e = .returned v ∧ TRR w' Z r v ∧ Below w.heap.size w w'

/-- The same over abstract states: what the call makes stays the caller's. -/
def CallS (P : Program) (f : FuncId) (args : List AV) (ob : Nm → Option Ob) (cnt : Nat → Nat) (R : AV → (Nm → Option Ob) → (Nat → Nat) → Prop) : Prop := callable P f = true ∧
  ∀ (w0 : World) (Zc : Nat → Prop) (m : Map) (w : World) (cargs : Array Value), HR w0 Zc m ob cnt w → args.length = cargs.size →
    (∀ (j : Nat) x u, args[j]? = some x → cargs[j]? = some u → AVR w (vol m ob Zc) m ob x u) →
    Calls P f cargs w fun e w' => ∃ v r ob' cnt' m', e = .returned v ∧ R r ob' cnt' ∧ HR w0 Zc m' ob' cnt' w' ∧ Ext w (vol m ob Zc) m ob w' (vol m' ob' Zc) m' ob' ∧ AVR w' (vol m' ob' Zc) m' ob' r v

/-! ### The small code -/
structure MOper where
  dst : Option Nat
  op : MOp
  guard : Option (Nat × Bool)

inductive MCode where
  | skip
  | region (ops : List MOper)
  | draw (deps : List (List Nat)) (ops : List MOper)
  | seq (a b : MCode)
  | cond (c : Arg) (a b : MCode)
  | block (id : Nat) (b : MCode)
  | loop (b : MCode)
  | exit (id : Nat)
  | ret

inductive X where
  | normal
  | exit (id : Nat)
  | ret

def St.set (S : St) (d : Option Nat) (v : AV) (ob : Nm → Option Ob) (cnt : Nat → Nat) : St :=
  ⟨match d with | some t => upd S.fr t v | none => S.fr, ob, cnt⟩

def thereIs (x : Option Eff) (K : Eff → Prop) : Prop := ∃ E, x = some E ∧ K E

def awpOp (P : Program) (o : MOp) (S : St) (K : AV → (Nm → Option Ob) → (Nat → Nat) → Prop) : Prop := match o with
  | .call f nm args => ∃ g caps, f.ev S = .one (.fn g caps) ∧ CallS P g (args.map (Arg.ev S) ++ caps.map (fun n => .one (.ptr n 0))) S.ob S.cnt K
  | .isnil neg x => match x.ev S with
    | .one .nil => ∀ b : Bool, K (.one (.t (.bool b))) S.ob S.cnt
    | .one (.row _) => K (.one (.t (.bool neg))) S.ob S.cnt
    | .one (.t (.sl n cs)) => ∀ b : Bool, (b = true → cs = []) → K (.one (.t (.bool (if neg then !b else b)))) S.ob S.cnt
    | _ => False
  | o => thereIs (evOp S o) fun E => K E.v E.ob E.cnt

/-- What a guard reads: an answer, or none where the operation was left out. -/
def gval : AV → Option (Option Bool)
  | .undef => some none
  | .one (.t (.bool b)) => some (some b)
  | _ => none

def awpOps (P : Program) : List MOper → St → (St → Prop) → Prop
  | [], S, Q => Q S
  | o :: r, S, Q => match o.guard with
    | none => awpOp P o.op S fun v ob cnt => awpOps P r (S.set o.dst v ob cnt) Q
    | some (t, b) => ∃ b', gval (S.fr t) = some b' ∧ (b' = some b → awpOp P o.op S fun v ob cnt => awpOps P r (S.set o.dst v ob cnt) Q) ∧
        (b' ≠ some b → awpOps P r (S.set o.dst .undef S.ob S.cnt) Q)

/-- The rule for a loop, as one word. -/
def loopP (b : (X → St → Prop) → St → Prop) (Q : X → St → Prop) (S : St) : Prop :=
  ∃ (I : St → Prop) (μ : St → Nat), I S ∧ ∀ S, I S → b (fun x S' => match x with | .normal => I S' ∧ μ S' < μ S | x => Q x S') S

theorem loop_intro {b : (X → St → Prop) → St → Prop} {Q : X → St → Prop} {S : St} (I : St → Prop) (μ : St → Nat) (h0 : I S)
    (h : ∀ S, I S → b (fun x S' => match x with | .normal => I S' ∧ μ S' < μ S | x => Q x S') S) : loopP b Q S := ⟨I, μ, h0, h⟩

def awp (P : Program) (D : List (List Nat) → List MOper → St → (St → Prop) → Prop) : MCode → (X → St → Prop) → St → Prop
  | .skip, Q, S => Q .normal S
  | .region ops, Q, S => awpOps P ops S (Q .normal)
  | .draw deps ops, Q, S => D deps ops S (Q .normal)
  | .seq a b, Q, S => awp P D a (fun x S' => match x with | .normal => awp P D b Q S' | x => Q x S') S
  | .cond c a b, Q, S => ∃ t, c.ev S = .one (.t (.bool t)) ∧ (t = true → awp P D a Q S) ∧ (t = false → awp P D b Q S)
  | .block id b, Q, S => awp P D b (fun x S' => match x with | .exit i => if i = id then Q .normal S' else Q (.exit i) S' | x => Q x S') S
  | .loop b, Q, S => loopP (awp P D b) Q S
  | .exit id, Q, S => Q (.exit id) S
  | .ret, Q, S => Q .ret S

/-! ### Compiling -/
def dstOk (N : Nat) : Option Nat → Bool
  | some t => t < N
  | none => true

def cOper (P : Program) (N nm : Nat) (ops : List Oper) (o : Oper) : Option MOper :=
  if dstOk N o.dst then (cOp P nm o).bind fun mo => match o.guard with
    | none => some ⟨o.dst, mo, none⟩
    | some (j, b) => match ops[j]? with
      | some oj => oj.dst.map fun t => ⟨o.dst, mo, some (t, b)⟩
      | none => none
  else none

def cOpers (P : Program) (N : Nat) (all : List Oper) : Nat → List Oper → Option (List MOper)
  | _, [] => some []
  | nm, o :: r => (cOper P N nm all o).bind fun x => (cOpers P N all (nm + 1) r).map (x :: ·)

def depsOf (o : Oper) : List Nat := (o.after.toList.filter (Region.binds .any)).map (·.on)

def cCode (P : Program) (N : Nat) : Code → Option MCode
  | .skip => some .skip
  | .region id ops false => (cOpers P N ops.toList (id * 64) ops.toList).map .region
  | .region id ops true => (cOpers P N ops.toList (id * 64) ops.toList).map (.draw (ops.toList.map depsOf))
  | .seq a b => (cCode P N a).bind fun a => (cCode P N b).map (.seq a)
  | .cond c a b => (cArg c).bind fun c => (cCode P N a).bind fun a => (cCode P N b).map (.cond c a)
  | .block id b => (cCode P N b).map (.block id)
  | .loop b => (cCode P N b).map .loop
  | .exit id => some (.exit id)
  | .ret => some .ret
  | _ => none

/-! ### Soundness -/
section
variable {P : Program} {a : Act} {w w0 : World} {I : Ini} {Zc : Nat → Prop} {N : Nat} {m : Map} {S : St}

theorem put_getD (a : Act) (t : Nat) (v : Value) (ht : t < a.tmps.size) (i : Nat) : (a.put (some t) v).tmps.getD i undef = if i = t then v else a.tmps.getD i undef := by
  simp only [Act.put, Array.getD_eq_getD_getElem?, Array.getElem?_setIfInBounds]
  by_cases h : i = t
  · subst h
    simp [ht]
  · rw [if_neg (by omega), if_neg h]

/-- The state behind an operation. -/
theorem sim_put {d : Option Nat} {v : AV} {u : Value} {w' : World} {m' : Map} {ob : Nm → Option Ob} {cnt : Nat → Nat} (s : Sim w0 I Zc N m S a w) (hd : dstOk N d = true) (h : HR w0 Zc m' ob cnt w')
    (e : Ext w (vol m S.ob Zc) m S.ob w' (vol m' ob Zc) m' ob) (hv : AVR w' (vol m' ob Zc) m' ob v u) : Sim w0 I Zc N m' (S.set d v ob cnt) (a.put d u) w' := by
  cases d with
  | none => exact ⟨h, s.defers, s.size, fun t => AVR.ext e (s.fr t), s.past.trans e⟩
  | some t =>
    have ht : t < a.tmps.size := by rw [s.size]; simpa [dstOk] using hd
    refine ⟨h, s.defers, by simp [Act.put, s.size], fun i => ?_, s.past.trans e⟩
    rw [put_getD a t u ht i]
    simp only [St.set, upd]
    by_cases hi : i = t
    · rw [if_pos hi, if_pos hi]; exact hv
    · rw [if_neg hi, if_neg hi]; exact AVR.ext e (s.fr i)

theorem cArgs_spec {w : World} (s : Sim w0 I Zc N m S a w) : ∀ {xs : List Operand} {l : List Arg}, cArgs xs = some l → (l.map (Arg.ev S)).length = (xs.map a.eval).length ∧
    ∀ (j : Nat) x u, (l.map (Arg.ev S))[j]? = some x → (xs.map a.eval)[j]? = some u → AVR w (vol m S.ob Zc) m S.ob x u
  | [], l, h => by
    injection h with h; subst h
    exact ⟨rfl, fun j x u hx => by simp at hx⟩
  | x :: r, l, h => by
    simp only [cArgs, Option.bind_eq_some_iff, Option.map_eq_some_iff] at h
    obtain ⟨y, hy, ys, hys, rfl⟩ := h
    obtain ⟨i1, i2⟩ := cArgs_spec s hys
    refine ⟨by simpa using i1, fun j p u hp hu => ?_⟩
    cases j with
    | zero =>
      simp at hp hu
      subst hp hu
      exact arg_spec s hy
    | succ j => exact i2 j p u (by simpa using hp) (by simpa using hu)

set_option maxHeartbeats 1000000 in
theorem cOp_call {nm n : Nat} {o : Oper} {f : Arg} {args : List Arg} (hc : cOp P nm o = some (.call f n args)) :
    ∃ c fo, o.op = .call c ∧ c.callee = .value fo ∧ cArg fo = some f ∧ cArgs c.args.toList = some args := by
  unfold cOp at hc
  split at hc
  case h_21 c ho =>
    unfold cCall at hc
    split at hc
    · unfold cBuiltin at hc
      repeat' (split at hc)
      all_goals simp [Option.bind_eq_some_iff, Option.map_eq_some_iff] at hc
    · rename_i fo hfo
      simp only [Option.bind_eq_some_iff, Option.map_eq_some_iff] at hc
      obtain ⟨f', hf', l, hl, he⟩ := hc
      injection he with e1 e2 e3
      subst e1 e2 e3
      exact ⟨c, fo, ho, hfo, hf', hl⟩
    · cases hc
  all_goals
    repeat' (split at hc)
    all_goals (simp [Option.bind_eq_some_iff, Option.map_eq_some_iff] at hc)

set_option maxHeartbeats 1000000 in
theorem cOp_isnil {nm : Nat} {o : Oper} {neg : Bool} {y : Arg} (hc : cOp P nm o = some (.isnil neg y)) :
    ∃ t t' x e, o.op = .binOp (if neg then .neq else .eql) t x (.const (.slice none 0 0)) t' ∧ P.underlying t = some (.slice e) ∧ cArg x = some y := by
  unfold cOp at hc
  split at hc
  case h_11 t x t' ho =>
    split at hc
    · rename_i e he
      simp only [Option.map_eq_some_iff] at hc
      obtain ⟨y', hy, h⟩ := hc
      injection h with h1 h2
      subst h1 h2
      exact ⟨t, t', x, e, ho, he, hy⟩
    · cases hc
  case h_12 t x t' ho =>
    split at hc
    · rename_i e he
      simp only [Option.map_eq_some_iff] at hc
      obtain ⟨y', hy, h⟩ := hc
      injection h with h1 h2
      subst h1 h2
      exact ⟨t, t', x, e, ho, he, hy⟩
    · cases hc
  case h_21 c ho =>
    unfold cCall at hc
    split at hc
    · unfold cBuiltin at hc
      repeat' (split at hc)
      all_goals simp [Option.bind_eq_some_iff, Option.map_eq_some_iff] at hc
    · simp [Option.bind_eq_some_iff, Option.map_eq_some_iff] at hc
    · cases hc
  all_goals
    repeat' (split at hc)
    all_goals (simp [Option.bind_eq_some_iff, Option.map_eq_some_iff] at hc)

theorem isnil_run {neg : Bool} {t t' : TypeId} {x : Operand} {e : TypeId} {o : Oper} (ho : o.op = .binOp (if neg then .neq else .eql) t x (.const (.slice none 0 0)) t') (hu : P.underlying t = some (.slice e)) {A : Option Addr} {n c : Nat} (hx : a.eval x = .slice A n c) :
    (execOp a.eval o).run P w = .ok (.value (.bool (if neg then !A.isNone else A.isNone))) w := by
  have hy : a.eval (.const (.slice none 0 0)) = .slice none 0 0 := rfl
  have heq : (Op.equal t (.slice A n c) (.slice none 0 0)).run P w = .ok A.isNone w := by
    unfold Op.equal
    obtain ⟨d, hd⟩ : ∃ d, Op.maxDepth = d + 1 := ⟨9999, rfl⟩
    rw [hd]
    cases A <;> simp [Op.equalIn, run_underlying hu]
  cases neg
  · simp only [Bool.false_eq_true, if_false] at ho ⊢
    simp only [execOp, ho, hx, hy, Sem.run_bind, eqGuard, binOp, heq, Result.andThen_ok, Sem.run_pure]
    simp [heq]
  · simp only [if_true] at ho ⊢
    simp only [execOp, ho, hx, hy, Sem.run_bind, eqGuard, binOp, heq, Result.andThen_ok, Sem.run_pure]
    simp [heq]

theorem op_wp {nm : Nat} {o : Oper} {mo : MOp} {K : AV → (Nm → Option Ob) → (Nat → Nat) → Prop} (s : Sim w0 I Zc N m S a w) (hc : cOp P nm o = some mo)
    (h : awpOp P mo S K) (next : Act → World → Prop) (Q : Exit → Act → World → Prop)
    (hn : ∀ v u w' m' ob cnt, K v ob cnt → HR w0 Zc m' ob cnt w' → Ext w (vol m S.ob Zc) m S.ob w' (vol m' ob Zc) m' ob → AVR w' (vol m' ob Zc) m' ob v u → next (a.put o.dst u) w') : o.wp P a w next Q := by
  have plain : (∃ E, evOp S mo = some E ∧ K E.v E.ob E.cnt) → o.wp P a w next Q := by
    rintro ⟨E, he, hk⟩
    obtain ⟨nx, v, w', m', hrun, hnx, g1, g2, g3⟩ := op_goes s hc he
    unfold Oper.wp
    rw [hrun]
    rcases hnx with rfl | ⟨rfl, rfl⟩
    · exact hn _ _ _ _ _ _ hk g1 g2 g3
    · exact hn _ _ _ _ _ _ hk g1 g2 g3
  by_cases hcall : ∃ f n args, mo = .call f n args
  · obtain ⟨f, n, args, rfl⟩ := hcall
    obtain ⟨g, caps, hf, ⟨hcb, hcs⟩⟩ := h
    obtain ⟨c, fo, ho, hfo, hcf, hca⟩ := cOp_call hc
    have e1 := arg_spec s hcf
    rw [hf] at e1
    obtain ⟨hcn, e1⟩ := e1
    have hrun : (execOp a.eval o).run P w = .ok (.enter g (c.args.map a.eval ++ (caps.map (ptrV m)).toArray)) w := by
      unfold callable at hcb
      split at hcb
      · rename_i fn hfn
        simp only [Bool.and_eq_true, bne_iff_ne] at hcb
        obtain ⟨h1, h2⟩ := hcb
        have h2 : fn.body.isNone = false := by
          cases hb : fn.body with
          | none => rw [hb] at h2; cases h2
          | some b => rfl
        simp [execOp, ho, resolve, hfo, e1, Deferred.ofValue, invoke, callFunc, hfn, h1, h2]
        intro hb
        rw [hb] at h2
        cases h2
      · cases hcb
    unfold Oper.wp
    rw [hrun]
    obtain ⟨l1, l2⟩ := cArgs_spec s hca
    refine (hcs w0 Zc m w _ s.heap ?_ ?_).mono ?_
    · simp only [List.length_append, List.length_map, Array.size_append, Array.size_map, List.size_toArray]
      simp only [List.length_map, Array.length_toList] at l1
      omega
    · intro j x u hx hu
      rw [List.getElem?_append] at hx
      simp only [Array.getElem?_append, Array.size_map] at hu
      simp only [List.length_map, Array.length_toList] at l1 hx
      by_cases hj : j < args.length
      · rw [if_pos hj] at hx
        rw [if_pos (by omega)] at hu
        exact l2 j x u hx (by simpa using hu)
      · rw [if_neg hj] at hx
        rw [if_neg (by omega)] at hu
        simp only [List.getElem?_map, Option.map_eq_some_iff, List.getElem?_toArray] at hx hu
        obtain ⟨q, hq, rfl⟩ := hx
        obtain ⟨q', hq', rfl⟩ := hu
        rw [l1, hq'] at hq
        injection hq with hq
        subst hq
        exact ⟨hcn _ (List.mem_of_getElem? hq'), rfl⟩
    · rintro e w' ⟨v, r, ob', cnt', m', rfl, hk, h1, h2, h3⟩
      exact hn _ _ _ _ _ _ hk h1 h2 h3
  · by_cases hnil : ∃ neg y, mo = .isnil neg y
    · obtain ⟨neg, y, rfl⟩ := hnil
      obtain ⟨t, t', x, e, ho, hu, hy⟩ := cOp_isnil hc
      have hv := arg_spec s hy
      have fin : ∀ (A : Option Addr) (n c : Nat), a.eval x = .slice A n c → K (.one (.t (.bool (if neg then !A.isNone else A.isNone)))) S.ob S.cnt → o.wp P a w next Q := by
        intro A n c hx hk
        unfold Oper.wp
        rw [isnil_run ho hu hx]
        exact hn _ _ w m _ _ hk s.heap (Ext.refl ..) (CR.bool _)
      simp only [awpOp] at h
      split at h
      · rename_i he
        rw [he] at hv
        obtain ⟨A, hv⟩ : ∃ A, a.eval x = .slice A 0 0 := hv
        exact fin A 0 0 hv (h _)
      · rename_i p he
        rw [he] at hv
        obtain ⟨b, _, _, hv⟩ := hv
        exact fin _ _ _ hv (by cases neg <;> exact h)
      · rename_i n cs he
        rw [he] at hv
        generalize hx : a.eval x = v at hv
        cases (show CR w _ (.sl n cs) v from hv)
        rename_i cap A us hcap ha hcc
        refine fin A n cap hx (h A.isNone fun hb => ?_)
        cases A with
        | some ad => cases hb
        | none =>
          cases cs with
          | nil => rfl
          | cons c r =>
            obtain ⟨ad, h, _⟩ := ha (by simp)
            cases h
      · exact h.elim
    · cases mo <;> first | exact absurd ⟨_, _, _, rfl⟩ hcall | exact absurd ⟨_, _, rfl⟩ hnil | exact plain h
end
end Go.Proofs.YthcnpnogfblkcaaGreat.Abs

/- The weakest precondition over the small code is sound. -/
namespace Go.Proofs.YthcnpnogfblkcaaGreat.Abs
open Go.RowKit
set_option linter.unusedVariables false
set_option linter.unusedSimpArgs false

section
variable {P : Program} {a : Act} {w w0 : World} {I : Ini} {Zc : Nat → Prop} {N : Nat} {m : Map} {S : St}

theorem dstOk_of {N nm : Nat} {all : List Oper} {o : Oper} {x : MOper} (h : cOper P N nm all o = some x) : dstOk N o.dst = true ∧ x.dst = o.dst ∧ cOp P nm o = some x.op ∧
    (o.guard = none ∧ x.guard = none ∨ ∃ j b t oj, o.guard = some (j, b) ∧ all[j]? = some oj ∧ oj.dst = some t ∧ x.guard = some (t, b)) := by
  unfold cOper at h
  split at h
  · rename_i hd
    simp only [Option.bind_eq_some_iff] at h
    obtain ⟨mo, hmo, h⟩ := h
    split at h
    · rename_i hg
      injection h with h; subst h
      exact ⟨hd, rfl, hmo, .inl ⟨hg, rfl⟩⟩
    · rename_i j b hg
      split at h
      · rename_i oj hoj
        simp only [Option.map_eq_some_iff] at h
        obtain ⟨t, ht, rfl⟩ := h
        exact ⟨hd, rfl, hmo, .inr ⟨j, b, t, oj, hg, hoj, ht, rfl⟩⟩
      · cases h
  · cases h

theorem wanted_none {o : Oper} {y : Nat → Option Bool} (h : o.guard = none) : Region.wanted o y = true := by simp [Region.wanted, h]

theorem wanted_some {ops : Array Oper} {o oj : Oper} {j t : Nat} {b : Bool} {b' : Option Bool} (s : Sim w0 I Zc N m S a w) (hg : o.guard = some (j, b)) (hj : ops.toList[j]? = some oj) (ht : oj.dst = some t) (hv : gval (S.fr t) = some b') :
    Region.wanted o (yielded ops a.tmps) = decide (b' = some b) := by
  have h := s.fr t
  have hj' : ops[j]? = some oj := by rw [← Array.getElem?_toList]; exact hj
  unfold gval at hv
  split at hv
  · rename_i e
    injection hv with hv; subst hv
    rw [e] at h
    have h : a.tmps.getD t undef = undef := h
    have hn : yielded ops a.tmps j = none := by
      simp only [yielded, hj', Option.bind_some, ht]
      rw [Array.getD_eq_getD_getElem?] at h
      cases hx : a.tmps[t]? with
      | none => rfl
      | some v =>
        rw [hx] at h
        simp at h
        rw [h]
        rfl
    simp [Region.wanted, hg, hn]
  · rename_i b0 e
    injection hv with hv; subst hv
    rw [e] at h
    have h := one_bool h
    have ht2 : a.tmps[t]? = some (.bool b0) := by
      rw [Array.getD_eq_getD_getElem?] at h
      cases hx : a.tmps[t]? with
      | none => rw [hx] at h; cases h
      | some v => rw [hx] at h; simp at h; rw [h]
    simp [Region.wanted, hg, yielded, hj', ht, ht2]
    cases b <;> cases b0 <;> rfl
  · cases hv

theorem ops_wp {ops : Array Oper} {Qc : Exit → Act → World → Prop} : ∀ (ol : List Oper) (nm : Nat) (l : List MOper) (S : St) (a : Act) (w : World) (m : Map) (Q : St → Prop), cOpers P N ops.toList nm ol = some l → Sim w0 I Zc N m S a w →
    awpOps P l S Q → (∀ S' m' a' w', Q S' → Sim w0 I Zc N m' S' a' w' → Qc .normal a' w') → wpList P ops Qc ol a w
  | [], nm, l, S, a, w, m, Q, hc, s, h, hq => by
    injection hc with hc; subst hc
    exact hq S m a w h s
  | o :: r, nm, l, S, a, w, m, Q, hc, s, h, hq => by
    simp only [cOpers, Option.bind_eq_some_iff, Option.map_eq_some_iff] at hc
    obtain ⟨x, hx, l', hl, rfl⟩ := hc
    obtain ⟨hd, hxd, hmo, hg⟩ := dstOk_of hx
    have go : awpOp P x.op S (fun v ob cnt => awpOps P l' (S.set x.dst v ob cnt) Q) → o.wp P a w (wpList P ops Qc r) Qc := fun h =>
      op_wp s hmo h _ _ fun v u w' m' ob cnt hk h1 h2 h3 => ops_wp r _ l' _ _ _ m' Q hl (by rw [hxd]; exact sim_put s hd h1 h2 h3) hk hq
    unfold awpOps at h
    rcases hg with ⟨g1, g2⟩ | ⟨j, b, t, oj, g1, g2, g3, g4⟩
    · rw [g2] at h
      simp only [wpList, wanted_none g1, if_true]
      exact .inl (go h)
    · rw [g4] at h
      obtain ⟨b', hb', h1, h2⟩ := h
      simp only [wpList, wanted_some s g1 g2 g3 hb']
      by_cases e : b' = some b
      · simp only [e, decide_true, if_true]
        exact .inl (go (h1 e))
      · simp only [e, decide_false, Bool.false_eq_true, if_false]
        refine ops_wp r _ l' _ _ _ m Q hl ?_ (h2 e) hq
        rw [hxd]
        exact sim_put s hd s.heap (Ext.refl ..) rfl

/-- The post condition, over worlds. -/
def CQ (w0 : World) (I : Ini) (Zc : Nat → Prop) (N : Nat) (Q : X → St → Prop) : Exit → Act → World → Prop
  | .normal, a, w => ∃ S m, Q .normal S ∧ Sim w0 I Zc N m S a w
  | .exit id, a, w => ∃ S m, Q (.exit id) S ∧ Sim w0 I Zc N m S a w
  | .ret, a, w => ∃ S m, Q .ret S ∧ Sim w0 I Zc N m S a w
  | _, _, _ => False

/-- What is asked of the rule for regions whose order is open. -/
def DSound (P : Program) (D : List (List Nat) → List MOper → St → (St → Prop) → Prop) : Prop :=
  ∀ (w0 : World) (I : Ini) (Zc : Nat → Prop) (N : Nat) (m : Map) (S : St) (a : Act) (w : World) (id nm : Nat) (ops : Array Oper) (l : List MOper) (Q : St → Prop) (Qc : Exit → Act → World → Prop),
    cOpers P N ops.toList nm ops.toList = some l → Sim w0 I Zc N m S a w → D (ops.toList.map depsOf) l S Q → (∀ S' m' a' w', Q S' → Sim w0 I Zc N m' S' a' w' → Qc .normal a' w') → (Code.region id ops true).wp P Qc a w

theorem code_wp {D : List (List Nat) → List MOper → St → (St → Prop) → Prop} (hD : DSound P D) : ∀ (c : Code) (mc : MCode) (Q : X → St → Prop) (S : St) (a : Act) (w : World) (m : Map), cCode P N c = some mc → Sim w0 I Zc N m S a w →
    awp P D mc Q S → c.wp P (CQ w0 I Zc N Q) a w := by
  intro c
  induction c with
  | skip =>
    intro mc Q S a w m hc s h
    injection hc with hc; subst hc
    exact wp_skip ⟨S, m, h, s⟩
  | region id ops draw =>
    intro mc Q S a w m hc s h
    cases draw with
    | false =>
      simp only [cCode, Option.map_eq_some_iff] at hc
      obtain ⟨l, hl, rfl⟩ := hc
      exact wp_region_list (ops_wp _ _ l S a w m _ hl s h fun S' m' a' w' hq hs => ⟨S', m', hq, hs⟩)
    | true =>
      simp only [cCode, Option.map_eq_some_iff] at hc
      obtain ⟨l, hl, rfl⟩ := hc
      exact hD w0 I Zc N m S a w id _ ops l _ _ hl s h fun S' m' a' w' hq hs => ⟨S', m', hq, hs⟩
  | seq x y ihx ihy =>
    intro mc Q S a w m hc s h
    simp only [cCode, Option.bind_eq_some_iff, Option.map_eq_some_iff] at hc
    obtain ⟨mx, hx, my, hy, rfl⟩ := hc
    refine wp_seq (wp_mono (ihx mx _ S a w m hx s h) fun e a' w' he => ?_)
    cases e with
    | normal =>
      obtain ⟨S', m', hq, hs⟩ := he
      exact ihy my Q S' a' w' m' hy hs hq
    | exit id => exact he
    | ret => exact he
    | goto l => exact he
    | panic ch => exact he
    | outgrown => exact he
  | cond c x y ihx ihy =>
    intro mc Q S a w m hc s h
    simp only [cCode, Option.bind_eq_some_iff, Option.map_eq_some_iff] at hc
    obtain ⟨c', hc', mx, hx, my, hy, rfl⟩ := hc
    obtain ⟨t, ht, h1, h2⟩ := h
    have e := arg_spec s hc'
    rw [ht] at e
    refine wp_cond (one_bool e) ?_
    cases t with
    | true => exact ihx mx Q S a w m hx s (h1 rfl)
    | false => exact ihy my Q S a w m hy s (h2 rfl)
  | block id b ih =>
    intro mc Q S a w m hc s h
    simp only [cCode, Option.map_eq_some_iff] at hc
    obtain ⟨mb, hb, rfl⟩ := hc
    refine wp_block (wp_mono (ih mb _ S a w m hb s h) fun e a' w' he => ?_)
    cases e with
    | normal => exact he
    | exit i =>
      obtain ⟨S', m', hq, hs⟩ := he
      simp only at hq
      simp only [Exit.inBlock]
      by_cases hi : i = id
      · rw [if_pos hi] at hq ⊢
        exact ⟨S', m', hq, hs⟩
      · rw [if_neg hi] at hq ⊢
        exact ⟨S', m', hq, hs⟩
    | ret => exact he
    | goto l => exact he
    | panic ch => exact he
    | outgrown => exact he
  | loop b ih =>
    intro mc Q S a w m hc s h
    simp only [cCode, Option.map_eq_some_iff] at hc
    obtain ⟨mb, hb, rfl⟩ := hc
    obtain ⟨J, μ, h0, hstep⟩ := h
    have key : ∀ (n : Nat) (S : St) (a : Act) (w : World) (m : Map), μ S < n → J S → Sim w0 I Zc N m S a w → Code.rounds P b (CQ w0 I Zc N Q) n a w := by
      intro n
      induction n with
      | zero => intro S a w m hn; omega
      | succ n ihn =>
        intro S a w m hn hi hs
        rw [rounds_succ]
        refine wp_mono (ih mb _ S a w m hb hs (hstep S hi)) fun e a' w' he => ?_
        cases e with
        | normal =>
          obtain ⟨S', m', ⟨hi', hlt⟩, hs'⟩ := he
          exact ihn S' a' w' m' (by omega) hi' hs'
        | exit id => exact he
        | ret => exact he
        | goto l => exact he
        | panic ch => exact he
        | outgrown => exact he
    exact wp_loop_rounds (μ S + 1) (key _ S a w m (Nat.lt_succ_self _) h0 s)
  | exit id =>
    intro mc Q S a w m hc s h
    injection hc with hc; subst hc
    exact wp_exit ⟨S, m, h, s⟩
  | ret =>
    intro mc Q S a w m hc s h
    injection hc with hc; subst hc
    exact wp_ret ⟨S, m, h, s⟩
  | rangeFunc f ps x y ihx ihy => intro mc Q S a w m hc; cases hc
  | scope b ih => intro mc Q S a w m hc; cases hc
  | label l => intro mc Q S a w m hc; cases hc
  | goto l => intro mc Q S a w m hc; cases hc
  | refuse why => intro mc Q S a w m hc; cases hc
end

/-! ### Functions -/
inductive MRes where
  | tmp (t : Nat)
  | cell (t : Nat) (agg : Bool) (sz : Nat)

def cRes (P : Program) : ResultVar → Option MRes
  | .tmp t => some (.tmp t)
  | .cell t ty => (aggB P ty).bind fun b => if b then (sizeB P ty).map (.cell t true) else some (.cell t false 1)

def cRess (P : Program) : List ResultVar → Option (List MRes)
  | [] => some []
  | x :: r => (cRes P x).bind fun y => (cRess P r).map (y :: ·)

structure MFunc where
  n : Nat
  res : List MRes
  body : MCode

def cFn (P : Program) (fn : Func) : Option MFunc := match fn.body with
  | some c => (cRess P fn.results.toList).bind fun r => (cCode P fn.ntmps c).map fun b => ⟨fn.ntmps, r, b⟩
  | none => none

/-- A result that one variable holds: one cell, or an aggregate. -/
def resOf (S : St) : MRes → Option (Bool × List V1)
  | .tmp t => match S.fr t with
    | .one v => some (false, [v])
    | .agg vs => some (true, vs)
    | _ => none
  | .cell t agg sz => match rdAt S sz (S.fr t) with
    | some vs => if agg then some (true, vs) else match vs with
      | [v] => some (false, [v])
      | _ => none
    | none => none

def resAll (S : St) : List MRes → Option (List (Bool × List V1))
  | [] => some []
  | x :: r => (resOf S x).bind fun y => (resAll S r).map (y :: ·)

def retOf (S : St) (l : List MRes) : Option AV := match l with
  | [x] => (resOf S x).bind fun y => match y with
    | (true, vs) => some (.agg vs)
    | (false, [v]) => some (.one v)
    | _ => none
  | l => (resAll S l).map .tup

def resSem (tmps : Array Value) : ResultVar → Sem Value
  | .tmp t => pure (tmps.getD t undef)
  | .cell p t => do loadVar t (← asAddr (tmps.getD p undef))

section
variable {P : Program} {a : Act} {w w0 : World} {I : Ini} {Zc : Nat → Prop} {N : Nat} {m : Map} {S : St}

theorem resOf_spec (s : Sim w0 I Zc N m S a w) {r : ResultVar} {x : MRes} {y : Bool × List V1} (hc : cRes P r = some x) (h : resOf S x = some y) :
    ∃ v, (resSem a.tmps r).run P w = .ok v w ∧ SVR w (vol m S.ob Zc) m S.ob y v := by
  cases r with
  | tmp t =>
    injection hc with hc; subst hc
    have hf := s.fr t
    simp only [resOf] at h
    split at h
    · rename_i v hv
      injection h with h; subst h
      rw [hv] at hf
      exact ⟨_, rfl, v, rfl, hf⟩
    · rename_i vs hv
      injection h with h; subst h
      rw [hv] at hf
      exact ⟨_, rfl, hf⟩
    · cases h
  | cell p t =>
    simp only [cRes, Option.bind_eq_some_iff] at hc
    obtain ⟨b, hb, hc⟩ := hc
    have key : ∀ sz vs, rdAt S sz (S.fr p) = some vs → ∃ (ad : Addr) (us : List Value), a.tmps.getD p undef = .pointer (some ad) ∧ vs.length = sz ∧ L1R w (vol m S.ob Zc) m S.ob vs us ∧ ∀ (j : Nat) u, us[j]? = some u → w.cell? (ad.add j) = some u :=
      fun sz vs h => rd_spec s (s.fr p) h
    cases b with
    | true =>
      simp only [if_true, Option.map_eq_some_iff] at hc
      obtain ⟨n, hn, rfl⟩ := hc
      simp only [resOf, if_true] at h
      split at h
      · rename_i vs hvs
        injection h with h; subst h
        obtain ⟨ad, us, hv, hl, h2, h3⟩ := key _ _ hvs
        have hlen : us.length = n := by rw [← h2.1]; exact hl
        have hrun := run_loadCells_list (P := P) w ad us h3
        refine ⟨.agg us.toArray, ?_, us.toArray, rfl, by simpa using h2⟩
        simp only [resSem, hv, asAddr, loadVar, Sem.run_bind, Sem.run_pure, Result.andThen_ok, run_isAgg_of hb, if_true, size_spec hn, ← hlen, hrun]
      · cases h
    | false =>
      simp only [Bool.false_eq_true, if_false] at hc
      injection hc with hc; subst hc
      simp only [resOf, Bool.false_eq_true, if_false] at h
      split at h
      · rename_i vs hvs
        split at h
        · rename_i v
          injection h with h; subst h
          obtain ⟨ad, us, hv, hl, h2, h3⟩ := key _ _ hvs
          match us, h2.1 with
          | [u], _ =>
            have hc := h3 0 u rfl
            rw [show ad.add 0 = ad from rfl] at hc
            refine ⟨u, ?_, v, rfl, h2.2 0 v u rfl rfl⟩
            simp only [resSem, hv, asAddr, loadVar, Sem.run_bind, Sem.run_pure, Result.andThen_ok, run_isAgg_of hb, Bool.false_eq_true, if_false, run_load, hc]
        · cases h
      · cases h

theorem resAll_spec (s : Sim w0 I Zc N m S a w) : ∀ {rs : List ResultVar} {xs : List MRes} {ys : List (Bool × List V1)}, cRess P rs = some xs → resAll S xs = some ys →
    ∃ vs, (rs.mapM (resSem a.tmps)).run P w = .ok vs w ∧ ys.length = vs.length ∧
      ∀ (j : Nat) y v, ys[j]? = some y → vs[j]? = some v → SVR w (vol m S.ob Zc) m S.ob y v
  | [], xs, ys, hc, h => by
    injection hc with hc; subst hc
    injection h with h; subst h
    exact ⟨[], by simp, rfl, fun j y v hy => by simp at hy⟩
  | r :: rs, xs, ys, hc, h => by
    simp only [cRess, Option.bind_eq_some_iff, Option.map_eq_some_iff] at hc
    obtain ⟨x, hx, xs', hxs, rfl⟩ := hc
    simp only [resAll, Option.bind_eq_some_iff, Option.map_eq_some_iff] at h
    obtain ⟨y, hy, ys', hys, rfl⟩ := h
    obtain ⟨v, hv, hr⟩ := resOf_spec s hx hy
    obtain ⟨vs, hvs, hl, hrs⟩ := resAll_spec s hxs hys
    refine ⟨v :: vs, ?_, by simp [hl], fun j p q hp hq => ?_⟩
    · simp only [List.mapM_cons, Sem.run_bind, hv, Result.andThen_ok, hvs, Sem.run_pure]
    · cases j with
      | zero => simp at hp hq; subst hp hq; exact hr
      | succ j => exact hrs j p q (by simpa using hp) (by simpa using hq)

theorem ret_spec (s : Sim w0 I Zc N m S a w) {fn : Func} {xs : List MRes} {r : AV} (hc : cRess P fn.results.toList = some xs) (h : retOf S xs = some r) :
    ∃ v, (results fn a.tmps).run P w = .ok v w ∧ AVR w (vol m S.ob Zc) m S.ob r v := by
  have run : ∀ vs, (fn.results.toList.mapM (resSem a.tmps)).run P w = .ok vs w →
      (results fn a.tmps).run P w = .ok (if h : vs.toArray.size = 1 then vs.toArray[0] else .tuple vs.toArray) w := by
    intro vs hvs
    have e : results fn a.tmps = (do
        let vs ← fn.results.mapM (resSem a.tmps)
        pure (if h : vs.size = 1 then vs[0] else .tuple vs)) := by
      unfold results
      congr 2
    rw [e]
    simp only [Array.mapM_eq_mapM_toList, Sem.run_bind, Sem.run_map, hvs, Result.andThen_ok, Sem.run_pure]
  unfold retOf at h
  split at h
  · rename_i x
    simp only [Option.bind_eq_some_iff] at h
    obtain ⟨y, hy, h⟩ := h
    obtain ⟨vs, h1, h2, h3⟩ := resAll_spec s hc (show resAll S [x] = some [y] by simp [resAll, hy])
    match vs, h2 with
    | [v], _ =>
      refine ⟨v, by rw [run _ h1]; simp, ?_⟩
      have hr := h3 0 y v rfl rfl
      split at h
      · injection h with h; subst h
        exact hr
      · injection h with h; subst h
        obtain ⟨q, hq, hr⟩ := hr
        injection hq with hq
        subst hq
        exact hr
      · cases h
  · rename_i hne
    simp only [Option.map_eq_some_iff] at h
    obtain ⟨ys, hys, rfl⟩ := h
    obtain ⟨vs, h1, h2, h3⟩ := resAll_spec s hc hys
    have hlen : ∀ (xs : List MRes) (ys : List (Bool × List V1)), resAll S xs = some ys → ys.length = xs.length := by
      intro xs
      induction xs with
      | nil => intro ys h; injection h with h; subst h; rfl
      | cons x r ih =>
        intro ys h
        simp only [resAll, Option.bind_eq_some_iff, Option.map_eq_some_iff] at h
        obtain ⟨y, _, ys', h', rfl⟩ := h
        simp [ih ys' h']
    have hv : vs.toArray.size ≠ 1 := by
      simp only [List.size_toArray]
      intro e
      have e2 := hlen _ _ hys
      obtain ⟨x, rfl⟩ := List.length_eq_one_iff.1 (show xs.length = 1 by omega)
      exact hne x rfl
    refine ⟨.tuple vs.toArray, by rw [run _ h1, dif_neg hv], vs.toArray, rfl, by simpa using h2, fun j y v hy hu => h3 j y v hy (by simpa using hu)⟩
end

/-- A call's first frame. -/
def frameOf (args : List AV) (t : Nat) : AV := match args[t]? with
  | some x => x
  | none => .undef

section
variable {P : Program}

theorem frame_getD (cargs : Array Value) (n t : Nat) : (cargs ++ Array.replicate (n - cargs.size) undef).getD t undef = cargs.getD t undef := by
  simp only [Array.getD_eq_getD_getElem?, Array.getElem?_append]
  split
  · rfl
  · rename_i h
    rw [Array.getElem?_eq_none (by omega : cargs.size ≤ t)]
    simp only [Array.getElem?_replicate]
    split <;> rfl

theorem cFn_spec {fn : Func} {mf : MFunc} (h : cFn P fn = some mf) : ∃ c, fn.body = some c ∧ cRess P fn.results.toList = some mf.res ∧ cCode P fn.ntmps c = some mf.body ∧ mf.n = fn.ntmps := by
  unfold cFn at h
  split at h
  · rename_i c hc
    simp only [Option.bind_eq_some_iff, Option.map_eq_some_iff] at h
    obtain ⟨r, hr, b, hb, rfl⟩ := h
    exact ⟨c, hc, hr, hb, rfl⟩
  · cases h

theorem callable_of {f : FuncId} {fn : Func} (hfn : P.funcs[f]? = some fn) (h : ((fn.name != "runtime.NumGoroutine") && fn.body.isSome) = true) : callable P f = true := by
  unfold callable
  rw [hfn]
  exact h

theorem callS_of {D : List (List Nat) → List MOper → St → (St → Prop) → Prop} (hD : DSound P D) {f : FuncId} {fn : Func} {mf : MFunc} {args : List AV} {ob : Nm → Option Ob} {cnt : Nat → Nat} {R : AV → (Nm → Option Ob) → (Nat → Nat) → Prop}
    (hfn : P.funcs[f]? = some fn) (hc : cFn P fn = some mf) (hcb : callable P f = true) (hn : args.length ≤ mf.n)
    (h : awp P D mf.body (fun x S => match x with | .exit _ => False | _ => ∃ r, retOf S mf.res = some r ∧ R r S.ob S.cnt) ⟨frameOf args, ob, cnt⟩) : CallS P f args ob cnt R := by
  obtain ⟨c, hbody, hres, hcode, hN⟩ := cFn_spec hc
  refine ⟨hcb, fun w0 Zc m w cargs hr hlen hargs => calls_of_wp hfn hbody ?_⟩
  have s0 : Sim w0 ⟨w, m, ob⟩ Zc fn.ntmps m ⟨frameOf args, ob, cnt⟩ { tmps := cargs ++ Array.replicate (fn.ntmps - cargs.size) undef, defers := [] } w := by
    refine ⟨hr, rfl, ?_, fun t => ?_, Ext.refl ..⟩
    · simp only [Array.size_append, Array.size_replicate]
      omega
    · show AVR _ _ _ _ (frameOf args t) _
      rw [frame_getD]
      unfold frameOf
      split
      · rename_i x hx
        have ht : t < cargs.size := by rw [← hlen]; exact (List.getElem?_eq_some_iff.1 hx).1
        refine hargs t x _ hx ?_
        rw [Array.getD_eq_getD_getElem?, Array.getElem?_eq_getElem ht]
        rfl
      · rename_i hx
        have ht : cargs.size ≤ t := by
          rw [← hlen]
          exact List.getElem?_eq_none_iff.1 hx
        show cargs.getD t undef = undef
        rw [Array.getD_eq_getD_getElem?, Array.getElem?_eq_none ht]
        rfl
  refine wp_mono (code_wp hD c mf.body _ _ _ w m hcode s0 h) fun e a' w' he => ?_
  have fin : ∀ S' m', (∃ r, retOf S' mf.res = some r ∧ R r S'.ob S'.cnt) → Sim w0 ⟨w, m, ob⟩ Zc fn.ntmps m' S' a' w' → a'.defers = [] ∧ ∃ v, (results fn a'.tmps).run P w' = .ok v w' ∧
      ∃ v_1 r ob' cnt' m', Ending.returned v = .returned v_1 ∧ R r ob' cnt' ∧ HR w0 Zc m' ob' cnt' w' ∧ Ext w (vol m ob Zc) m ob w' (vol m' ob' Zc) m' ob' ∧ AVR w' (vol m' ob' Zc) m' ob' r v_1 := by
    rintro S' m' ⟨r, hr1, hr2⟩ hs
    obtain ⟨v, hv1, hv2⟩ := ret_spec hs hres hr1
    exact ⟨hs.defers, v, hv1, v, r, _, _, m', rfl, hr2, hs.heap, hs.past, hv2⟩
  cases e with
  | normal =>
    obtain ⟨S', m', hq, hs⟩ := he
    exact fin S' m' hq hs
  | ret =>
    obtain ⟨S', m', hq, hs⟩ := he
    exact fin S' m' hq hs
  | exit i =>
    obtain ⟨S', m', hq, hs⟩ := he
    exact hq.elim
  | goto l => exact he.elim
  | panic ch => exact he.elim
  | outgrown => exact he.elim
end

/-! ### Contracts over trees -/
def C.v1 (c : C) : V1 := .t c

def TV.av : TV → AV
  | (true, cs) => .agg (cs.map .t)
  | (false, [c]) => .one (.t c)
  | _ => .undef

def untree : List V1 → Option (List C)
  | [] => some []
  | .t c :: r => (untree r).map (c :: ·)
  | _ => none

def treeCell (S : St) : V1 → Option C
  | .t c => some c
  | .nil => some (.sl 0 [])
  | .row o => match S.live o with
    | some x => if x.isRow = true then (untree x.cells).map (.sl x.n) else none
    | none => none
  | _ => none

def treeCells (S : St) : List V1 → Option (List C)
  | [] => some []
  | v :: r => (treeCell S v).bind fun c => (treeCells S r).map (c :: ·)

def treeTups (S : St) : List (Bool × List V1) → Option (List TV)
  | [] => some []
  | (b, vs) :: r => (treeCells S vs).bind fun cs => (treeTups S r).map ((b, cs) :: ·)

def treeOf (S : St) : AV → Option TR
  | .one v => (treeCell S v).map fun c => .sv (false, [c])
  | .agg vs => (treeCells S vs).map fun cs => .sv (true, cs)
  | .tup l => (treeTups S l).map .tup
  | .undef => none

def noOb : Nm → Option Ob := fun _ => none
def noCnt : Nat → Nat := fun _ => 0

section
variable {P : Program} {a : Act} {w w0 : World} {Zc : Nat → Prop} {m : Map} {ob : Nm → Option Ob} {cnt : Nat → Nat}

theorem untree_spec : ∀ {vs : List V1} {cs : List C}, untree vs = some cs → vs = cs.map .t
  | [], cs, h => by injection h with h; subst h; rfl
  | v :: r, cs, h => by
    unfold untree at h
    split at h
    · cases ‹v :: r = []›
    · rename_i c r' e
      injection e with e1 e2
      subst e1 e2
      simp only [Option.map_eq_some_iff] at h
      obtain ⟨cs', hcs, rfl⟩ := h
      rw [untree_spec hcs]
      rfl
    · cases h

theorem treeCell_spec {S : St} (h : HR w0 Zc m S.ob S.cnt w) {x : V1} {c : C} {v : Value} (hx : treeCell S x = some c) (hv : V1R w (vol m S.ob Zc) m S.ob x v) : CR w Zc c v := by
  have wk : ∀ {c : C} {v : Value}, CR w (vol m S.ob Zc) c v → CR w Zc c v := fun h => h.weaken fun b hb => .inl hb
  unfold treeCell at hx
  split at hx
  · injection hx with hx; subst hx
    exact wk hv
  · injection hx with hx; subst hx
    obtain ⟨A, rfl⟩ : ∃ A, v = .slice A 0 0 := hv
    exact .sl 0 0 [] A (fun _ => default) (Nat.le_refl _) (fun h => by simp at h) (fun j c h => by simp at h)
  · rename_i o
    split at hx
    · rename_i y hy
      split at hx
      · rename_i hrow
        simp only [Option.map_eq_some_iff] at hx
        obtain ⟨cs, hcs, rfl⟩ := hx
        obtain ⟨hob, hlive⟩ := live_spec hy
        obtain ⟨y', hy', _, rfl⟩ := hv
        rw [hob] at hy'
        injection hy' with hy'
        subst hy'
        obtain ⟨hbase, arr, h1, h2, h3⟩ := h.obs _ _ hob hlive
        rw [if_pos hrow] at h2
        have hc := untree_spec hcs
        have hlen : y.cells.length = cs.length := by rw [hc]; simp
        have hcell : ∀ (j : Nat) c, cs[j]? = some c → ∃ u, arr[j]? = some u ∧ CR w (vol m S.ob Zc) c u := by
          intro j c hj
          obtain ⟨u, g1, _, g3⟩ := h3 j (.t c) (by rw [hc]; simp [hj])
          exact ⟨u, g1, g3⟩
        refine .sl y.n (m.cap o) cs (some ⟨m.at_ o, 0, none⟩) (fun j => arr[j]?.getD default) h2.2.1 (fun _ => ⟨_, rfl, fun hz => ?_, fun j hj => ?_⟩) (fun j c hj => ?_)
        · have := h.zc _ hz
          simp only at this
          omega
        · rw [add_ptr, Nat.zero_add, cell_of_row w _ _ _ _ _ h1]
          obtain ⟨u, g1, _⟩ := hcell j cs[j] (List.getElem?_eq_getElem hj)
          rw [g1]
          rfl
        · obtain ⟨u, g1, g2⟩ := hcell j c hj
          rw [g1]
          exact wk g2
      · cases hx
    · cases hx
  · cases hx

theorem treeCells_spec {S : St} (h : HR w0 Zc m S.ob S.cnt w) : ∀ {xs : List V1} {cs : List C} {us : List Value}, treeCells S xs = some cs → L1R w (vol m S.ob Zc) m S.ob xs us → TLR w Zc cs us
  | [], cs, us, hx, hl => by
    injection hx with hx; subst hx
    exact ⟨hl.1, fun j c u hc => by simp at hc⟩
  | v :: r, cs, us, hx, hl => by
    simp only [treeCells, Option.bind_eq_some_iff, Option.map_eq_some_iff] at hx
    obtain ⟨c, hc, cs', hcs, rfl⟩ := hx
    cases us with
    | nil => exact absurd hl.1 (by simp)
    | cons u us =>
      have ih := treeCells_spec h (us := us) hcs ⟨by simpa using hl.1, fun j p q hp hq => hl.2 (j + 1) p q (by simpa using hp) (by simpa using hq)⟩
      refine ⟨by simpa using ih.1, fun j p q hp hq => ?_⟩
      cases j with
      | zero =>
        simp at hp hq
        subst hp hq
        exact treeCell_spec h hc (hl.2 0 v u rfl rfl)
      | succ j => exact ih.2 j p q (by simpa using hp) (by simpa using hq)

theorem treeTups_spec {S : St} (h : HR w0 Zc m S.ob S.cnt w) : ∀ {xs : List (Bool × List V1)} {l : List TV}, treeTups S xs = some l → l.length = xs.length ∧
    ∀ (j : Nat) s x u, l[j]? = some s → xs[j]? = some x → SVR w (vol m S.ob Zc) m S.ob x u → TVR w Zc s u
  | [], l, hx => by
    injection hx with hx; subst hx
    exact ⟨rfl, fun j s x u hs => by simp at hs⟩
  | (b, vs) :: r, l, hx => by
    simp only [treeTups, Option.bind_eq_some_iff, Option.map_eq_some_iff] at hx
    obtain ⟨cs, hcs, l', hl', rfl⟩ := hx
    obtain ⟨i1, i2⟩ := treeTups_spec h hl'
    refine ⟨by simp [i1], fun j s x u hs hx hu => ?_⟩
    cases j with
    | zero =>
      simp at hs hx
      subst hs hx
      cases b with
      | true =>
        obtain ⟨us, rfl, hl⟩ := hu
        exact ⟨us, rfl, treeCells_spec h hcs hl⟩
      | false =>
        obtain ⟨y, rfl, hy⟩ := hu
        simp only [treeCells, Option.bind_eq_some_iff, Option.map_eq_some_iff] at hcs
        obtain ⟨c, hc, cs', hcs', rfl⟩ := hcs
        injection hcs' with hcs'
        subst hcs'
        exact ⟨c, rfl, treeCell_spec h hc hy⟩
    | succ j => exact i2 j s x u (by simpa using hs) (by simpa using hx) hu

theorem treeOf_spec {S : St} (h : HR w0 Zc m S.ob S.cnt w) {x : AV} {r : TR} {v : Value} (hx : treeOf S x = some r) (hv : AVR w (vol m S.ob Zc) m S.ob x v) : TRR w Zc r v := by
  cases x with
  | one x =>
    simp only [treeOf, Option.map_eq_some_iff] at hx
    obtain ⟨c, hc, rfl⟩ := hx
    exact ⟨c, rfl, treeCell_spec h hc hv⟩
  | agg vs =>
    simp only [treeOf, Option.map_eq_some_iff] at hx
    obtain ⟨cs, hcs, rfl⟩ := hx
    obtain ⟨us, rfl, hl⟩ := hv
    exact ⟨us, rfl, treeCells_spec h hcs hl⟩
  | tup l =>
    simp only [treeOf, Option.map_eq_some_iff] at hx
    obtain ⟨l', hl', rfl⟩ := hx
    obtain ⟨us, rfl, h1, h2⟩ := hv
    obtain ⟨i1, i2⟩ := treeTups_spec h hl'
    refine ⟨us, rfl, by rw [i1]; exact h1, fun j s u hs hu => ?_⟩
    have hj : j < l.length := by rw [← i1]; exact (List.getElem?_eq_some_iff.1 hs).1
    exact i2 j s _ u hs (List.getElem?_eq_getElem hj) (h2 j _ u (List.getElem?_eq_getElem hj) hu)
  | undef => cases hx

theorem callOK_of_S {f : FuncId} {args : List TV} {r : TR} (h : CallS P f (args.map TV.av) noOb noCnt (fun x ob cnt => treeOf ⟨fun _ => .undef, ob, cnt⟩ x = some r)) : CallOK P f args r := by
  refine ⟨h.1, fun w Z cargs hz hlen hargs => ?_⟩
  let m0 : Map := ⟨fun _ => 0, fun _ => 0⟩
  have hr : HR w Z m0 noOb noCnt w := ⟨Below.refl _ _, hz, fun _ _ _ => rfl, fun _ _ h => (by cases h), fun _ _ _ _ h => (by cases h)⟩
  have hv : ∀ b, vol m0 noOb Z b → Z b := by
    rintro b (h | ⟨o, x, h, _⟩)
    · exact h
    · cases h
  refine (h.2 w Z m0 w cargs hr (by simpa using hlen) (fun j x u hx hu => ?_)).mono ?_
  · simp only [List.getElem?_map, Option.map_eq_some_iff] at hx
    obtain ⟨s, hs, rfl⟩ := hx
    have ht := hargs j s u hs hu
    obtain ⟨b, cs⟩ := s
    cases b with
    | true =>
      obtain ⟨us, rfl, h1, h2⟩ := ht
      refine ⟨us, rfl, by simpa using h1, fun i v q hv' hq => ?_⟩
      simp only [List.getElem?_map, Option.map_eq_some_iff] at hv'
      obtain ⟨c, hc, rfl⟩ := hv'
      exact (h2 i c q hc hq).weaken hv
    | false =>
      obtain ⟨c, rfl, hc⟩ := ht
      exact CR.weaken hv hc
  · rintro e w' ⟨v, x, ob', cnt', m', rfl, hx, h1, h2, h3⟩
    exact ⟨v, rfl, treeOf_spec (S := ⟨fun _ => .undef, ob', cnt'⟩) h1 hx h3, h1.below⟩
end
end Go.Proofs.YthcnpnogfblkcaaGreat.Abs

/- A contract over trees serves at a call in any state. -/
namespace Go.Proofs.YthcnpnogfblkcaaGreat.Abs
open Go.RowKit
set_option linter.unusedVariables false
set_option linter.unusedSimpArgs false

def argTree (S : St) : AV → Option TV
  | .one v => (treeCell S v).map fun c => (false, [c])
  | .agg vs => (treeCells S vs).map fun cs => (true, cs)
  | _ => none

def argTrees (S : St) : List AV → Option (List TV)
  | [] => some []
  | x :: r => (argTree S x).bind fun y => (argTrees S r).map (y :: ·)

def TV.cs (x : TV) : List V1 := x.2.map .t

def TR.av : TR → AV
  | .sv x => x.av
  | .tup l => .tup (l.map fun x => (x.1, x.2.map .t))

def C.plain : C → Bool
  | .sl _ _ => false
  | _ => true

/-- No slice is in it. -/
def TR.plain : TR → Bool
  | .sv x => x.2.all C.plain
  | .tup l => l.all fun x => x.2.all C.plain

/-- The rows in it don't change any more. -/
def V1.still (S : St) : V1 → Bool
  | .row o => match S.live o with
    | some x => x.frz
    | none => false
  | _ => true

def AV.still (S : St) : AV → Bool
  | .one v => v.still S
  | .agg vs => vs.all (V1.still S)
  | _ => true

section
variable {P : Program} {a : Act} {w w' w0 : World} {Zc Z : Nat → Prop} {m : Map} {S : St}

theorem CR.any {c : C} {v : Value} (hp : c.plain = true) (h : CR w Z c v) (Z' : Nat → Prop) : CR w Z' c v := by
  cases h with
  | int k n => exact .int k n
  | bool b => exact .bool b
  | sl => cases hp

/-- A row that is still reads as a tree that no later step turns. -/
theorem treeCell_still (h : HR w0 Zc m S.ob S.cnt w) {x : V1} {c : C} {v : Value} (hx : treeCell S x = some c) (hs : x.still S = true) (hv : V1R w (vol m S.ob Zc) m S.ob x v) : CR w (vol m S.ob Zc) c v := by
  have h' : HR w0 (fun b => Zc b ∧ b < w0.heap.size) m S.ob S.cnt w := by
    refine ⟨h.below, fun b hb => hb.2, h.fresh, fun o y ho hl => ?_, h.inj⟩
    exact OR.ext ⟨⟨fun _ _ _ => rfl, fun b hb hz => by
      rcases hz with hz | hz
      · exact .inl hz.1
      · exact .inr hz, Nat.le_refl _⟩, fun _ _ => rfl, fun _ _ => rfl, fun o x h => ⟨x, h, rfl, rfl⟩⟩ (by rw [ho]; simp) rfl (h.obs o y ho hl)
  cases x with
  | t x => injection hx with hx; subst hx; exact hv
  | nil =>
    injection hx with hx; subst hx
    obtain ⟨A, rfl⟩ : ∃ A, v = .slice A 0 0 := hv
    exact .sl 0 0 [] A (fun _ => default) (Nat.le_refl _) (fun h => by simp at h) (fun j c h => by simp at h)
  | row o =>
    simp only [treeCell] at hx
    simp only [V1.still] at hs
    split at hx
    · rename_i y hy
      rw [hy] at hs
      simp only at hs
      split at hx
      · rename_i hrow
        simp only [Option.map_eq_some_iff] at hx
        obtain ⟨cs, hcs, rfl⟩ := hx
        obtain ⟨hob, hlive⟩ := live_spec hy
        obtain ⟨y', hy', _, rfl⟩ := hv
        rw [hob] at hy'
        injection hy' with hy'
        subst hy'
        obtain ⟨hbase, arr, h1, h2, h3⟩ := h.obs _ _ hob hlive
        rw [if_pos hrow] at h2
        have hc := untree_spec hcs
        have hcell : ∀ (j : Nat) c, cs[j]? = some c → ∃ u, arr[j]? = some u ∧ CR w (vol m S.ob Zc) c u := by
          intro j c hj
          obtain ⟨u, g1, _, g3⟩ := h3 j (.t c) (by rw [hc]; simp [hj])
          exact ⟨u, g1, g3⟩
        refine .sl y.n (m.cap o) cs (some ⟨m.at_ o, 0, none⟩) (fun j => arr[j]?.getD default) h2.2.1 (fun _ => ⟨_, rfl, fun hz => ?_, fun j hj => ?_⟩) (fun j c hj => ?_)
        · rcases hz with hz | ⟨o', y', ho', hl', hf', e⟩
          · have := h.zc _ hz
            simp only at this
            omega
          · have := h.inj o' y' o y ho' hl' hob hlive e
            subst this
            rw [hob] at ho'
            injection ho' with ho'
            subst ho'
            rw [hs] at hf'
            cases hf'
        · rw [add_ptr, Nat.zero_add, cell_of_row w _ _ _ _ _ h1]
          obtain ⟨u, g1, _⟩ := hcell j cs[j] (List.getElem?_eq_getElem hj)
          rw [g1]
          rfl
        · obtain ⟨u, g1, g2⟩ := hcell j c hj
          rw [g1]
          exact g2
      · cases hx
    · cases hx
  | ptr o off => cases hx
  | pro cs => cases hx
  | fn f l => cases hx

theorem treeCells_still (h : HR w0 Zc m S.ob S.cnt w) : ∀ {xs : List V1} {cs : List C} {us : List Value}, treeCells S xs = some cs → xs.all (V1.still S) = true → L1R w (vol m S.ob Zc) m S.ob xs us → TLR w (vol m S.ob Zc) cs us
  | [], cs, us, hx, _, hl => by
    injection hx with hx; subst hx
    exact ⟨hl.1, fun j c u hc => by simp at hc⟩
  | v :: r, cs, us, hx, hs, hl => by
    simp only [treeCells, Option.bind_eq_some_iff, Option.map_eq_some_iff] at hx
    obtain ⟨c, hc, cs', hcs, rfl⟩ := hx
    simp only [List.all_cons, Bool.and_eq_true] at hs
    cases us with
    | nil => exact absurd hl.1 (by simp)
    | cons u us =>
      have ih := treeCells_still h (us := us) hcs hs.2 ⟨by simpa using hl.1, fun j p q hp hq => hl.2 (j + 1) p q (by simpa using hp) (by simpa using hq)⟩
      refine ⟨by simpa using ih.1, fun j p q hp hq => ?_⟩
      cases j with
      | zero =>
        simp at hp hq
        subst hp hq
        exact treeCell_still h hc hs.1 (hl.2 0 v u rfl rfl)
      | succ j => exact ih.2 j p q (by simpa using hp) (by simpa using hq)

theorem argTree_spec (h : HR w0 Zc m S.ob S.cnt w) {x : AV} {y : TV} {v : Value} (hx : argTree S x = some y) (hv : AVR w (vol m S.ob Zc) m S.ob x v) : TVR w Zc y v ∧ (x.still S = true → TVR w (vol m S.ob Zc) y v) := by
  cases x with
  | one x =>
    simp only [argTree, Option.map_eq_some_iff] at hx
    obtain ⟨c, hc, rfl⟩ := hx
    exact ⟨⟨c, rfl, treeCell_spec h hc hv⟩, fun hs => ⟨c, rfl, treeCell_still h hc hs hv⟩⟩
  | agg vs =>
    simp only [argTree, Option.map_eq_some_iff] at hx
    obtain ⟨cs, hcs, rfl⟩ := hx
    obtain ⟨us, rfl, hl⟩ := hv
    exact ⟨⟨us, rfl, treeCells_spec h hcs hl⟩, fun hs => ⟨us, rfl, treeCells_still h hcs hs hl⟩⟩
  | tup l => cases hx
  | undef => cases hx

theorem argTrees_spec (h : HR w0 Zc m S.ob S.cnt w) : ∀ {xs : List AV} {ys : List TV}, argTrees S xs = some ys → ys.length = xs.length ∧
    (∀ (j : Nat) y x v, ys[j]? = some y → xs[j]? = some x → AVR w (vol m S.ob Zc) m S.ob x v → TVR w Zc y v ∧ (x.still S = true → TVR w (vol m S.ob Zc) y v))
  | [], ys, hx => by
    injection hx with hx; subst hx
    exact ⟨rfl, fun j y x v hy => by simp at hy⟩
  | x :: r, ys, hx => by
    simp only [argTrees, Option.bind_eq_some_iff, Option.map_eq_some_iff] at hx
    obtain ⟨y, hy, ys', hys, rfl⟩ := hx
    obtain ⟨i1, i2⟩ := argTrees_spec h hys
    refine ⟨by simp [i1], fun j p q v hp hq hv => ?_⟩
    cases j with
    | zero =>
      simp at hp hq
      subst hp hq
      exact argTree_spec h hy hv
    | succ j => exact i2 j p q v (by simpa using hp) (by simpa using hq) hv

theorem tv_av {y : TV} {v : Value} {ob : Nm → Option Ob} (h : TVR w Z y v) : AVR w Z m ob y.av v := by
  obtain ⟨b, cs⟩ := y
  cases b with
  | true =>
    obtain ⟨us, rfl, h1, h2⟩ := h
    refine ⟨us, rfl, by simpa using h1, fun j x u hx hu => ?_⟩
    simp only [List.getElem?_map, Option.map_eq_some_iff] at hx
    obtain ⟨c, hc, rfl⟩ := hx
    exact h2 j c u hc hu
  | false =>
    obtain ⟨c, rfl, hc⟩ := h
    exact hc

theorem tr_av {r : TR} {v : Value} {ob : Nm → Option Ob} (h : TRR w Z r v) : AVR w Z m ob r.av v := by
  cases r with
  | sv x => exact tv_av h
  | tup l =>
    obtain ⟨us, rfl, h1, h2⟩ := h
    refine ⟨us, rfl, by simpa using h1, fun j s u hs hu => ?_⟩
    simp only [List.getElem?_map, Option.map_eq_some_iff] at hs
    obtain ⟨⟨b, cs⟩, hq, rfl⟩ := hs
    have ht := h2 j _ u hq hu
    cases b with
    | true =>
      obtain ⟨us', rfl, g1, g2⟩ := ht
      refine ⟨us', rfl, by simpa using g1, fun j x u hx hu => ?_⟩
      simp only [List.getElem?_map, Option.map_eq_some_iff] at hx
      obtain ⟨c, hc, rfl⟩ := hx
      exact g2 j c u hc hu
    | false =>
      obtain ⟨c, rfl, hc⟩ := ht
      exact ⟨.t c, rfl, hc⟩

theorem TVR.any {y : TV} {v : Value} (hp : y.2.all C.plain = true) (h : TVR w Z y v) (Z' : Nat → Prop) : TVR w Z' y v := by
  obtain ⟨b, cs⟩ := y
  simp only [List.all_eq_true] at hp
  cases b with
  | true =>
    obtain ⟨us, rfl, h1, h2⟩ := h
    exact ⟨us, rfl, h1, fun j c u hc hu => CR.any (hp c (List.mem_of_getElem? hc)) (h2 j c u hc hu) Z'⟩
  | false =>
    obtain ⟨c, rfl, hc⟩ := h
    exact ⟨c, rfl, CR.any (hp c (by simp)) hc Z'⟩

theorem TRR.any {r : TR} {v : Value} (hp : r.plain = true) (h : TRR w Z r v) (Z' : Nat → Prop) : TRR w Z' r v := by
  cases r with
  | sv x => exact TVR.any hp h Z'
  | tup l =>
    obtain ⟨us, rfl, h1, h2⟩ := h
    refine ⟨us, rfl, h1, fun j s u hs hu => TVR.any ?_ (h2 j s u hs hu) Z'⟩
    exact List.all_eq_true.1 hp s (List.mem_of_getElem? hs)

theorem ext_below {ob : Nm → Option Ob} (hb : Below w.heap.size w w') (Z : Nat → Prop) : Ext w Z m ob w' Z m ob :=
  ⟨⟨fun b _ hlt => hb.block b hlt, fun _ _ h => h, hb.size⟩, fun _ _ => rfl, fun _ _ => rfl, fun o x h => ⟨x, h, rfl, rfl⟩⟩

theorem hr_below {ob : Nm → Option Ob} {cnt : Nat → Nat} (h : HR w0 Zc m ob cnt w) (hb : Below w.heap.size w w') : HR w0 Zc m ob cnt w' :=
  ⟨h.below.trans (hb.mono h.size), h.zc, h.fresh, fun o x ho hl => OR.ext (ext_below hb _) (by rw [ho]; simp) (hb.block _ (h.at_lt ho hl)) (h.obs o x ho hl), h.inj⟩

/-- The contract over trees, at a call. -/
theorem callS_tree {f : FuncId} {args : List AV} {targs : List TV} {r : TR} {ob : Nm → Option Ob} {cnt : Nat → Nat} {R : AV → (Nm → Option Ob) → (Nat → Nat) → Prop} (h : CallOK P f targs r)
    (ht : argTrees ⟨fun _ => .undef, ob, cnt⟩ args = some targs) (hs : (r.plain || args.all (AV.still ⟨fun _ => .undef, ob, cnt⟩)) = true) (hR : R r.av ob cnt) : CallS P f args ob cnt R := by
  refine ⟨h.1, fun w0 Zc m w cargs hr hlen hargs => ?_⟩
  obtain ⟨i1, i2⟩ := argTrees_spec (S := ⟨fun _ => .undef, ob, cnt⟩) hr ht
  have fin : ∀ v w', Below w.heap.size w w' → TRR w' (vol m ob Zc) r v → ∃ v_1 r_1 ob' cnt' m', Ending.returned v = .returned v_1 ∧ R r_1 ob' cnt' ∧ HR w0 Zc m' ob' cnt' w' ∧ Ext w (vol m ob Zc) m ob w' (vol m' ob' Zc) m' ob' ∧ AVR w' (vol m' ob' Zc) m' ob' r_1 v_1 :=
    fun v w' hb hv => ⟨v, _, ob, cnt, m, rfl, hR, hr_below hr hb, ext_below hb _, tr_av hv⟩
  by_cases hp : r.plain = true
  · refine (h.2 w Zc cargs (fun b hb => by have := hr.zc b hb; have := hr.size; omega) (by omega) (fun j s u hs hu => ?_)).mono ?_
    · have hj : j < args.length := by rw [← i1]; exact (List.getElem?_eq_some_iff.1 hs).1
      exact (i2 j s _ u hs (List.getElem?_eq_getElem hj) (hargs j _ u (List.getElem?_eq_getElem hj) hu)).1
    · rintro e w' ⟨v, rfl, hv, hb⟩
      exact fin v w' hb (TRR.any hp hv _)
  · have hst : args.all (AV.still ⟨fun _ => .undef, ob, cnt⟩) = true := by
      cases hq : r.plain with
      | true => exact absurd hq hp
      | false => rw [hq] at hs; simpa using hs
    refine (h.2 w (vol m ob Zc) cargs (fun b hb => ?_) (by omega) (fun j s u hs hu => ?_)).mono ?_
    · rcases hb with hb | ⟨o, x, ho, hl, _, e⟩
      · have := hr.zc b hb
        have := hr.size
        omega
      · rw [← e]
        exact hr.at_lt ho hl
    · have hj : j < args.length := by rw [← i1]; exact (List.getElem?_eq_some_iff.1 hs).1
      exact (i2 j s _ u hs (List.getElem?_eq_getElem hj) (hargs j _ u (List.getElem?_eq_getElem hj) hu)).2 (List.all_eq_true.1 hst _ (List.getElem_mem hj))
    · rintro e w' ⟨v, rfl, hv, hb⟩
      exact fin v w' hb hv

/-! ### A new row comes back -/
def RowOf (w w' : World) (typ esz n : Nat) (cs : List C) (v : Value) : Prop :=
  (n = 0 ∧ ∃ A, v = .slice A 0 0) ∨ (0 < n ∧ ∃ (g cap : Nat) (arr : Array Value), w.heap.size ≤ g ∧ w'.heap[g]? = some (.cells arr typ (0, 0)) ∧ v = .slice (some ⟨g, 0, none⟩) n cap ∧ arr.size = cap * esz ∧ n ≤ cap ∧ cap ≤ maxLen ∧
    ∀ (j : Nat) c, cs[j]? = some c → ∃ u, arr[j]? = some u ∧ CR w' (fun _ => False) c u)

/-- Called with what reads as these trees, the function returns a slice of its own of these cells; nothing that was there has changed. -/
def CallRow (P : Program) (f : FuncId) (args : List TV) (typ esz n : Nat) (cs : List C) : Prop := callable P f = true ∧ cs.all C.plain = true ∧ cs.length = n * esz ∧ 0 < esz ∧
  ∀ (w : World) (Z : Nat → Prop) (cargs : Array Value), (∀ b, Z b → b < w.heap.size) → args.length = cargs.size →
    (∀ (j : Nat) s u, args[j]? = some s → cargs[j]? = some u → TVR w Z s u) →
    Calls P f cargs w fun e w' => ∃ v, e = .returned v ∧ RowOf w w' typ esz n cs v ∧ Below w.heap.size w w'

def rowEff (S : St) (nm typ esz n : Nat) (cs : List C) : Eff := if n = 0 then S.val (.one .nil) else S.new nm ⟨true, true, false, esz, n, typ, cs.map .t⟩ (.one (.row (nm, S.cnt nm)))

theorem callS_row {f : FuncId} {args : List AV} {targs : List TV} {typ esz n : Nat} {cs : List C} {ob : Nm → Option Ob} {cnt : Nat → Nat} {R : AV → (Nm → Option Ob) → (Nat → Nat) → Prop} (nm : Nat) (h : CallRow P f targs typ esz n cs)
    (ht : argTrees ⟨fun _ => .undef, ob, cnt⟩ args = some targs) (hR : R (rowEff ⟨fun _ => .undef, ob, cnt⟩ nm typ esz n cs).v (rowEff ⟨fun _ => .undef, ob, cnt⟩ nm typ esz n cs).ob (rowEff ⟨fun _ => .undef, ob, cnt⟩ nm typ esz n cs).cnt) : CallS P f args ob cnt R := by
  obtain ⟨hc, hpl, hlen0, hesz, h⟩ := h
  refine ⟨hc, fun w0 Zc m w cargs hr hlen hargs => ?_⟩
  obtain ⟨i1, i2⟩ := argTrees_spec (S := ⟨fun _ => .undef, ob, cnt⟩) hr ht
  refine (h w Zc cargs (fun b hb => by have := hr.zc b hb; have := hr.size; omega) (by omega) (fun j s u hs hu => ?_)).mono ?_
  · have hj : j < args.length := by rw [← i1]; exact (List.getElem?_eq_some_iff.1 hs).1
    exact (i2 j s _ u hs (List.getElem?_eq_getElem hj) (hargs j _ u (List.getElem?_eq_getElem hj) hu)).1
  · rintro e w' ⟨v, rfl, hv, hb⟩
    rcases hv with ⟨rfl, A, rfl⟩ | ⟨hn, g, cap, arr, hg, hh, rfl, h1, h2, h3, h4⟩
    · exact ⟨_, .one .nil, ob, cnt, m, rfl, by simpa [rowEff, St.val] using hR, hr_below hr hb, ext_below hb _, ⟨A, rfl⟩⟩
    · have hne : ¬ n = 0 := by omega
      simp only [rowEff, if_neg hne, St.new] at hR
      refine ⟨_, _, _, _, m.set (nm, cnt nm) g cap, rfl, hR, hr_new_at hr nm ⟨true, true, false, esz, n, typ, cs.map .t⟩ cap g hg hb (fun _ => ⟨arr, hh, ?_, fun j x hx => ?_⟩), ext_new_at hr nm _ cap g hg (fun b hb' => hb.block b hb') hb.size, ?_⟩
      · simp only [if_true]
        refine ⟨h1, h2, h3, by simpa using hlen0, hesz, fun x hx => ?_⟩
        obtain ⟨c, _, rfl⟩ := List.mem_map.1 hx
        exact ⟨c, rfl⟩
      · simp only [List.getElem?_map, Option.map_eq_some_iff] at hx
        obtain ⟨c, hc, rfl⟩ := hx
        obtain ⟨u, g1, g2⟩ := h4 j c hc
        refine ⟨u, g1, ?_⟩
        have hp : c.plain = true := List.all_eq_true.1 hpl c (List.mem_of_getElem? hc)
        cases g2 with
        | int k n => exact CR.int k n
        | bool b => exact CR.bool b
        | sl => cases hp
      · exact ⟨_, by simp [upd_same]; rfl, rfl, by simp [Map.set, upd_same]⟩

/-- What a function's own row says, read off at its end. -/
def rowIs (typ esz n : Nat) (cs : List C) (ob : Nm → Option Ob) (r : AV) : Prop :=
  (n = 0 ∧ r = .one .nil) ∨ (0 < n ∧ ∃ o x, r = .one (.row o) ∧ ob o = some x ∧ x.live = true ∧ x.isRow = true ∧ x.typ = typ ∧ x.esz = esz ∧ x.n = n ∧ x.cells = cs.map .t)

theorem callRow_of_S {f : FuncId} {args : List TV} {typ esz n : Nat} {cs : List C} (hpl : cs.all C.plain = true) (hl : cs.length = n * esz) (he : 0 < esz)
    (h : CallS P f (args.map TV.av) noOb noCnt (fun x ob cnt => rowIs typ esz n cs ob x)) : CallRow P f args typ esz n cs := by
  refine ⟨h.1, hpl, hl, he, fun w Z cargs hz hlen hargs => ?_⟩
  let m0 : Map := ⟨fun _ => 0, fun _ => 0⟩
  have hr : HR w Z m0 noOb noCnt w := ⟨Below.refl _ _, hz, fun _ _ _ => rfl, fun _ _ h => (by cases h), fun _ _ _ _ h => (by cases h)⟩
  have hv : ∀ b, vol m0 noOb Z b → Z b := by
    rintro b (h | ⟨o, x, h, _⟩)
    · exact h
    · cases h
  refine (h.2 w Z m0 w cargs hr (by simpa using hlen) (fun j x u hx hu => ?_)).mono ?_
  · simp only [List.getElem?_map, Option.map_eq_some_iff] at hx
    obtain ⟨s, hs, rfl⟩ := hx
    have ht := hargs j s u hs hu
    obtain ⟨b, cs⟩ := s
    cases b with
    | true =>
      obtain ⟨us, rfl, h1, h2⟩ := ht
      refine ⟨us, rfl, by simpa using h1, fun i v q hv' hq => ?_⟩
      simp only [List.getElem?_map, Option.map_eq_some_iff] at hv'
      obtain ⟨c, hc, rfl⟩ := hv'
      exact (h2 i c q hc hq).weaken hv
    | false =>
      obtain ⟨c, rfl, hc⟩ := ht
      exact CR.weaken hv hc
  · rintro e w' ⟨v, x, ob', cnt', m', rfl, hx, h1, h2, h3⟩
    refine ⟨v, rfl, ?_, h1.below⟩
    rcases hx with ⟨rfl, rfl⟩ | ⟨hn, o, x, rfl, ho, hlv, hrow, rfl, rfl, rfl, hcs⟩
    · exact .inl ⟨rfl, h3⟩
    · obtain ⟨x', ho', _, rfl⟩ := h3
      rw [ho] at ho'
      injection ho' with ho'
      subst ho'
      obtain ⟨hbase, arr, g1, g2, g3⟩ := h1.obs o x ho hlv
      rw [if_pos hrow] at g2
      refine .inr ⟨hn, m'.at_ o, m'.cap o, arr, hbase, g1, rfl, g2.1, g2.2.1, g2.2.2.1, fun j c hc => ?_⟩
      obtain ⟨u, q1, _, q3⟩ := g3 j (.t c) (by rw [hcs]; simp [hc])
      exact ⟨u, q1, CR.any (List.all_eq_true.1 hpl c (List.mem_of_getElem? hc)) q3 _⟩

theorem callOK_of_row {f : FuncId} {args : List TV} {typ esz n : Nat} {cs : List C} (h : CallRow P f args typ esz n cs) : CallOK P f args (.sv (false, [.sl n cs])) := by
  obtain ⟨hc, hpl, hlen0, hesz, h⟩ := h
  refine ⟨hc, fun w Z cargs hz hlen hargs => (h w Z cargs hz hlen hargs).mono ?_⟩
  rintro e w' ⟨v, rfl, hv, hb⟩
  refine ⟨v, rfl, ⟨.sl n cs, rfl, ?_⟩, hb⟩
  rcases hv with ⟨rfl, A, rfl⟩ | ⟨hn, g, cap, arr, hg, hh, rfl, h1, h2, h3, h4⟩
  · have : cs = [] := List.eq_nil_of_length_eq_zero (by simpa using hlen0)
    subst this
    exact .sl 0 0 [] A (fun _ => default) (Nat.le_refl _) (fun h => by simp at h) (fun j c h => by simp at h)
  · refine .sl n cap cs (some ⟨g, 0, none⟩) (fun j => arr[j]?.getD default) h2 (fun _ => ⟨_, rfl, fun hz' => ?_, fun j hj => ?_⟩) (fun j c hj => ?_)
    · have := hz _ hz'
      simp only at this
      omega
    · rw [add_ptr, Nat.zero_add, cell_of_row w' _ _ _ _ _ hh]
      obtain ⟨u, g1, _⟩ := h4 j cs[j] (List.getElem?_eq_getElem hj)
      rw [g1]
      rfl
    · obtain ⟨u, g1, g2⟩ := h4 j c hj
      rw [g1]
      exact CR.any (List.all_eq_true.1 hpl c (List.mem_of_getElem? hj)) g2 _

/-! ### A row that is not written any more -/
def frzOne (ob : Nm → Option Ob) (o : Nm) : Nm → Option Ob := match ob o with
  | some x => upd ob o (some { x with frz := true })
  | none => ob

theorem frz_ext {w0 : World} {ob : Nm → Option Ob} {cnt : Nat → Nat} (h : HR w0 Zc m ob cnt w) (o : Nm) : HR w0 Zc m (frzOne ob o) cnt w ∧ Ext w (vol m ob Zc) m ob w (vol m (frzOne ob o) Zc) m (frzOne ob o) := by
  unfold frzOne
  cases hx : ob o with
  | none => exact ⟨h, Ext.refl ..⟩
  | some x =>
    simp only
    have sub : ∀ b, vol m (upd ob o (some { x with frz := true })) Zc b → vol m ob Zc b := by
      rintro b (hb | ⟨p, y, hp, hl, hf, e⟩)
      · exact .inl hb
      · by_cases e' : p = o
        · subst e'
          rw [upd_same] at hp
          injection hp with hp
          subst hp
          cases hf
        · rw [upd_ne _ _ e'] at hp
          exact .inr ⟨p, y, hp, hl, hf, e⟩
    have ex : Ext w (vol m ob Zc) m ob w (vol m (upd ob o (some { x with frz := true })) Zc) m (upd ob o (some { x with frz := true })) := by
      refine ⟨⟨fun _ _ _ => rfl, fun b _ hb => sub b hb, Nat.le_refl _⟩, fun _ _ => rfl, fun _ _ => rfl, fun p y hp => ?_⟩
      by_cases e' : p = o
      · subst e'
        rw [hx] at hp
        injection hp with hp
        subst hp
        exact ⟨_, upd_same .., rfl, rfl⟩
      · exact ⟨y, by rw [upd_ne _ _ e']; exact hp, rfl, rfl⟩
    refine ⟨⟨h.below, h.zc, fun nm g hg => ?_, fun p y hp hl => ?_, fun p y p' y' hp hl hp' hl' he => ?_⟩, ex⟩
    · rw [upd_ne _ _ (by rintro rfl; rw [h.fresh nm g hg] at hx; cases hx)]
      exact h.fresh nm g hg
    · by_cases e' : p = o
      · subst e'
        rw [upd_same] at hp
        injection hp with hp
        subst hp
        obtain ⟨b1, arr, b2, b3, b4⟩ := OR.ext ex (by rw [hx]; simp) rfl (h.obs p x hx hl)
        exact ⟨b1, arr, b2, b3, b4⟩
      · rw [upd_ne _ _ e'] at hp
        exact OR.ext ex (by rw [hp]; simp) rfl (h.obs p y hp hl)
    · have back : ∀ (p : Nm) (y : Ob), upd ob o (some { x with frz := true }) p = some y → y.live = true → ∃ z, ob p = some z ∧ z.live = true := by
        intro p y hp hl
        by_cases e' : p = o
        · subst e'
          rw [upd_same] at hp
          injection hp with hp
          subst hp
          exact ⟨x, hx, hl⟩
        · rw [upd_ne _ _ e'] at hp
          exact ⟨y, hp, hl⟩
      obtain ⟨z, q1, q2⟩ := back p y hp hl
      obtain ⟨z', q1', q2'⟩ := back p' y' hp' hl'
      exact h.inj p z p' z' q1 q2 q1' q2' he

def frzAll : List Nm → (Nm → Option Ob) → Nm → Option Ob
  | [], ob => ob
  | o :: r, ob => frzAll r (frzOne ob o)

theorem callS_freeze {f : FuncId} {args : List AV} {cnt : Nat → Nat} {R : AV → (Nm → Option Ob) → (Nat → Nat) → Prop} : ∀ (l : List Nm) {ob : Nm → Option Ob}, CallS P f args (frzAll l ob) cnt R → CallS P f args ob cnt R
  | [], ob, h => h
  | o :: r, ob, h => by
    have h := callS_freeze r h
    refine ⟨h.1, fun w0 Zc m w cargs hr hlen hargs => ?_⟩
    obtain ⟨h1, h2⟩ := frz_ext hr o
    refine (h.2 w0 Zc m w cargs h1 hlen fun j x u hx hu => AVR.ext h2 (hargs j x u hx hu)).mono ?_
    rintro e w' ⟨v, r, ob', cnt', m', rfl, g1, g2, g3, g4⟩
    exact ⟨v, r, ob', cnt', m', rfl, g1, g2, h2.trans g3, g4⟩
end
end Go.Proofs.YthcnpnogfblkcaaGreat.Abs

/- Regions whose order is open: what an operation reads and writes, and that it depends on nothing else. -/
namespace Go.Proofs.YthcnpnogfblkcaaGreat.Abs
open Go.RowKit
set_option linter.unusedVariables false
set_option linter.unusedSimpArgs false

/-- A place, by its static name: (0, t) a variable, (1, nm) objects, (2, nm) a count. -/
abbrev SL := Nat × Nat

structure Same (R : List SL) (T S : St) : Prop where
  fr : ∀ t, (0, t) ∈ R → T.fr t = S.fr t
  ob : ∀ o : Nm, (1, o.1) ∈ R → T.ob o = S.ob o
  cnt : ∀ n, (2, n) ∈ R → T.cnt n = S.cnt n

def Arg.rd : Arg → List SL
  | .tmp t => [(0, t)]
  | _ => []

def V1.refs : V1 → List SL
  | .ptr o _ => [(1, o.1)]
  | .row o => [(1, o.1)]
  | _ => []

def refsL : List V1 → List SL
  | [] => []
  | v :: r => v.refs ++ refsL r

def AV.refs : AV → List SL
  | .one v => v.refs
  | .agg vs => refsL vs
  | _ => []

def argRd (S : St) (x : Arg) : List SL := x.rd ++ (x.ev S).refs

def argsRd (S : St) : List Arg → List SL
  | [] => []
  | x :: r => argRd S x ++ argsRd S r

def opArgs : MOp → List Arg
  | .mv _ => []
  | .box _ _ x | .load _ _ x | .nilck x | .not x | .conv _ x | .fieldA _ x | .extract x _ | .len x | .isnil _ x => [x]
  | .pick c a b => [c, a, b]
  | .alloc .. => []
  | .build _ ps | .mkrow _ _ _ _ _ ps => ps.map (·.2.2)
  | .store _ a x => [a, x]
  | .bin _ x y | .eqS _ _ x y | .minmax _ x y | .append _ _ _ _ x y => [x, y]
  | .mkfn _ cs => cs
  | .make _ _ _ _ _ l c => [l, c]
  | .idxA _ x i | .idxArr _ _ x i => [x, i]
  | .call f _ args => f :: args

def opNew : MOp → List SL
  | .alloc nm .. | .box nm .. | .mkrow nm .. | .make nm .. | .append nm .. | .call _ nm _ => [(1, nm), (2, nm)]
  | _ => []

/-- A move reads its variable alone, not what that leads to. -/
def opNewR : MOp → List SL
  | .mv x => x.rd
  | o => opNew o

def opRd (S : St) (o : MOp) : List SL := argsRd S (opArgs o) ++ opNewR o

/-- The functions that turn rows of their arguments in open regions. -/
def mutF : List Nat := [29]
def isMut : AV → Bool
  | .one (.fn g _) => mutF.contains g
  | _ => false
@[simp] theorem isMut_fn {g : FuncId} {caps : List Nm} : isMut (.one (.fn g caps)) = decide (g = 29) := by simp [isMut, mutF]

def opWr (S : St) : MOp → List SL
  | .store _ a _ => (a.ev S).refs
  | .append nm _ _ _ x _ => (x.ev S).refs ++ [(1, nm), (2, nm)]
  | .call f nm args => [(1, nm), (2, nm)] ++ (if isMut (f.ev S) = true then (args.map (Arg.ev S)).flatMap AV.refs else [])
  | o => opNew o

/-! A call that turns rows of its arguments, alike in each state that has these rows. -/
def putAll (ups : List (Nm × Ob)) (ob : Nm → Option Ob) : Nm → Option Ob := ups.foldl (fun ob p => upd ob p.1 (some p.2)) ob
def putNew (new : Option Ob) (o : Nm) (ob : Nm → Option Ob) : Nm → Option Ob := match new with
  | some x => upd ob o (some x)
  | none => ob
def cntNew (new : Option Ob) (nm : Nat) (cnt : Nat → Nat) : Nat → Nat := match new with
  | some _ => upd cnt nm (cnt nm + 1)
  | none => cnt
def effM (S : St) (nm : Nat) (ups : List (Nm × Ob)) (new : Option Ob) (v : Nm → AV) : Eff := ⟨v (nm, S.cnt nm), putNew new (nm, S.cnt nm) (putAll ups S.ob), cntNew new nm S.cnt⟩
def CallM (P : Program) (g : FuncId) (nm : Nat) (args : List AV) (ob0 : Nm → Option Ob) (ups : List (Nm × Ob)) (new : Option Ob) (v : Nm → AV) : Prop :=
  (∀ p ∈ ups, (1, p.1.1) ∈ args.flatMap AV.refs) ∧
  ∀ ob cnt, (∀ o : Nm, (1, o.1) ∈ args.flatMap AV.refs → ob o = ob0 o) → CallS P g args ob cnt fun x ob' cnt' => x = v (nm, cnt nm) ∧ ob' = putNew new (nm, cnt nm) (putAll ups ob) ∧ cnt' = cntNew new nm cnt
theorem putAll_same {x : Nm} : ∀ {ups : List (Nm × Ob)} {T S : Nm → Option Ob}, T x = S x → putAll ups T x = putAll ups S x
  | [], _, _, h => h
  | p :: r, T, S, h => putAll_same (ups := r) (T := upd T p.1 (some p.2)) (S := upd S p.1 (some p.2)) (by
    unfold upd
    split
    · rfl
    · exact h)
theorem putAll_out {x : Nm} : ∀ {ups : List (Nm × Ob)} {S : Nm → Option Ob}, (∀ p ∈ ups, p.1 ≠ x) → putAll ups S x = S x
  | [], _, _ => rfl
  | p :: r, S, h => by
    have := putAll_out (x := x) (ups := r) (S := upd S p.1 (some p.2)) fun q hq => h q (List.mem_cons_of_mem _ hq)
    show putAll r (upd S p.1 (some p.2)) x = S x
    rw [this]
    exact upd_ne _ _ fun e => h p (List.mem_cons_self ..) e.symm

/-- What an operation of a region may do there: no closures, no questions that stay open. -/
def dOp (P : Program) (S : St) (o : MOp) (E : Eff) : Prop := match o with
  | .call f nm args => (∃ g targs, f.ev S = .one (.fn g []) ∧ argTrees ⟨fun _ => .undef, S.ob, S.cnt⟩ (args.map (Arg.ev S)) = some targs ∧
      ((∃ r, CallOK P g targs r ∧ (r.plain || (args.map (Arg.ev S)).all (AV.still ⟨fun _ => .undef, S.ob, S.cnt⟩)) = true ∧ E = S.val r.av) ∨
        ∃ typ esz n cs, CallRow P g targs typ esz n cs ∧ E = rowEff S nm typ esz n cs)) ∨
      ∃ g ups new v, f.ev S = .one (.fn g []) ∧ isMut (f.ev S) = true ∧ CallM P g nm (args.map (Arg.ev S)) S.ob ups new v ∧ E = effM S nm ups new v
  | .isnil .. => False
  | .mkfn .. => False
  | o => evOp S o = some E

/-- Only what it reads counts; only what it writes turns. -/
def Local (P : Program) (o : MOp) (S : St) (E : Eff) : Prop :=
  (∀ x : Nm, (1, x.1) ∉ opWr S o → E.ob x = S.ob x) ∧ (∀ n, (2, n) ∉ opWr S o → E.cnt n = S.cnt n) ∧
  ∀ T, Same (opRd S o) T S → ∃ E', dOp P T o E' ∧ E'.v = E.v ∧ (∀ x : Nm, (1, x.1) ∈ opWr S o → E'.ob x = E.ob x) ∧ (∀ x : Nm, (1, x.1) ∉ opWr S o → E'.ob x = T.ob x) ∧
    (∀ n, (2, n) ∈ opWr S o → E'.cnt n = E.cnt n) ∧ (∀ n, (2, n) ∉ opWr S o → E'.cnt n = T.cnt n)

theorem Same.mono {R R' : List SL} {T S : St} (h : Same R T S) (hr : ∀ l, l ∈ R' → l ∈ R) : Same R' T S := ⟨fun t ht => h.fr t (hr _ ht), fun o ho => h.ob o (hr _ ho), fun n hn => h.cnt n (hr _ hn)⟩

section
variable {S T : St}

theorem argRd_ev {x : Arg} (h : Same (argRd S x) T S) : x.ev T = x.ev S := by
  cases x with
  | tmp t => exact h.fr t (by simp [argRd, Arg.rd])
  | c v => rfl

theorem argRd_ob {x : Arg} (h : Same (argRd S x) T S) : ∀ o : Nm, (1, o.1) ∈ (x.ev S).refs → T.ob o = S.ob o := fun o ho => h.ob o (by simp [argRd, ho])

theorem argsRd_mem {xs : List Arg} {x : Arg} (hx : x ∈ xs) {l : SL} (h : l ∈ argRd S x) : l ∈ argsRd S xs := by
  induction xs with
  | nil => cases hx
  | cons y r ih =>
    rcases List.mem_cons.1 hx with rfl | hx
    · exact List.mem_append_left _ h
    · exact List.mem_append_right _ (ih hx)

theorem argsRd_one {xs : List Arg} (h : Same (argsRd S xs) T S) {x : Arg} (hx : x ∈ xs) : Same (argRd S x) T S := h.mono fun l hl => argsRd_mem hx hl

theorem live_eq {o : Nm} (h : T.ob o = S.ob o) : T.live o = S.live o := by simp [St.live, h]

theorem rdAt_eq {sz : Nat} {v : AV} (h : ∀ o : Nm, (1, o.1) ∈ v.refs → T.ob o = S.ob o) : rdAt T sz v = rdAt S sz v := by
  unfold rdAt
  split
  · rename_i o off
    rw [live_eq (h o (by simp [AV.refs, V1.refs]))]
  · rfl
  · rfl

theorem sliceOf_eq {v : AV} (h : ∀ o : Nm, (1, o.1) ∈ v.refs → T.ob o = S.ob o) : sliceOf T v = sliceOf S v := by
  unfold sliceOf
  split
  · rfl
  · rfl
  · rename_i o
    rw [live_eq (h o (by simp [AV.refs, V1.refs]))]
  · rfl

theorem fillV_eq : ∀ {ps : List (Nat × Nat × Arg)} {l : List V1}, Same (argsRd S (ps.map (·.2.2))) T S → fillV T ps l = fillV S ps l
  | [], l, h => rfl
  | (off, sz, x) :: r, l, h => by
    simp only [List.map_cons] at h
    have hx := argsRd_one h (List.mem_cons_self ..)
    simp only [fillV, argRd_ev hx]
    split
    · split
      · exact fillV_eq (h.mono fun l hl => List.mem_append_right _ hl)
      · rfl
    · rfl

theorem treeCell_eq {v : V1} (h : ∀ o : Nm, (1, o.1) ∈ v.refs → T.ob o = S.ob o) : treeCell T v = treeCell S v := by
  cases v with
  | row o => simp only [treeCell, live_eq (h o (by simp [V1.refs]))]
  | _ => rfl

theorem treeCells_eq : ∀ {vs : List V1}, (∀ o : Nm, (1, o.1) ∈ refsL vs → T.ob o = S.ob o) → treeCells T vs = treeCells S vs
  | [], h => rfl
  | v :: r, h => by
    simp only [treeCells, treeCell_eq (T := T) (S := S) (v := v) fun o ho => h o (List.mem_append_left _ ho), treeCells_eq (vs := r) fun o ho => h o (List.mem_append_right _ ho)]

theorem argTree_eq {v : AV} (h : ∀ o : Nm, (1, o.1) ∈ v.refs → T.ob o = S.ob o) : argTree T v = argTree S v := by
  cases v with
  | one v => simp only [argTree, treeCell_eq (T := T) (S := S) (v := v) h]
  | agg vs => simp only [argTree, treeCells_eq (T := T) (S := S) (vs := vs) h]
  | _ => rfl

theorem still1_eq {v : V1} (h : ∀ o : Nm, (1, o.1) ∈ v.refs → T.ob o = S.ob o) : v.still T = v.still S := by
  cases v with
  | row o => simp only [V1.still, live_eq (h o (by simp [V1.refs]))]
  | _ => rfl

theorem stills_eq : ∀ {vs : List V1}, (∀ o : Nm, (1, o.1) ∈ refsL vs → T.ob o = S.ob o) → vs.all (V1.still T) = vs.all (V1.still S)
  | [], h => rfl
  | v :: r, h => by
    simp only [List.all_cons, still1_eq (T := T) (S := S) (v := v) fun o ho => h o (List.mem_append_left _ ho), stills_eq (vs := r) fun o ho => h o (List.mem_append_right _ ho)]

theorem still_eq {v : AV} (h : ∀ o : Nm, (1, o.1) ∈ v.refs → T.ob o = S.ob o) : v.still T = v.still S := by
  cases v with
  | one v => exact still1_eq h
  | agg vs => exact stills_eq h
  | _ => rfl

theorem evs_eq : ∀ {xs : List Arg}, Same (argsRd S xs) T S → xs.map (Arg.ev T) = xs.map (Arg.ev S)
  | [], h => rfl
  | x :: r, h => by
    simp only [List.map_cons, argRd_ev (argsRd_one h (List.mem_cons_self ..)), evs_eq (xs := r) (h.mono fun l hl => List.mem_append_right _ hl)]

theorem argTrees_eq : ∀ {xs : List Arg}, Same (argsRd S xs) T S → argTrees ⟨fun _ => .undef, T.ob, T.cnt⟩ (xs.map (Arg.ev S)) = argTrees ⟨fun _ => .undef, S.ob, S.cnt⟩ (xs.map (Arg.ev S)) ∧
    (xs.map (Arg.ev S)).all (AV.still ⟨fun _ => .undef, T.ob, T.cnt⟩) = (xs.map (Arg.ev S)).all (AV.still ⟨fun _ => .undef, S.ob, S.cnt⟩)
  | [], h => ⟨rfl, rfl⟩
  | x :: r, h => by
    have hx := argRd_ob (argsRd_one h (List.mem_cons_self ..))
    obtain ⟨i1, i2⟩ := argTrees_eq (xs := r) (h.mono fun l hl => List.mem_append_right _ hl)
    constructor
    · simp only [List.map_cons, argTrees, i1, argTree_eq (T := ⟨fun _ => .undef, T.ob, T.cnt⟩) (S := ⟨fun _ => .undef, S.ob, S.cnt⟩) (v := x.ev S) hx]
    · simp only [List.map_cons, List.all_cons, i2, still_eq (T := ⟨fun _ => .undef, T.ob, T.cnt⟩) (S := ⟨fun _ => .undef, S.ob, S.cnt⟩) (v := x.ev S) hx]
end

section
variable {P : Program} {S : St}

/-- An operation that yields a value alone. -/
theorem local_val {o : MOp} {v : AV} (hn : opWr S o = []) (h : ∀ T, Same (opRd S o) T S → dOp P T o (T.val v)) : Local P o S (S.val v) :=
  ⟨fun _ _ => rfl, fun _ _ => rfl, fun T hT => ⟨T.val v, h T hT, rfl, fun x hx => (by rw [hn] at hx; cases hx), fun _ _ => rfl, fun n hx => (by rw [hn] at hx; cases hx), fun _ _ => rfl⟩⟩

/-- An operation that makes an object. -/
theorem local_new {o : MOp} {nm : Nat} {x : Ob} {v : Nm → AV} (hn : opWr S o = [(1, nm), (2, nm)]) (hr : ∀ l, l ∈ [(1, nm), (2, nm)] → l ∈ opRd S o) (h : ∀ T, Same (opRd S o) T S → dOp P T o (T.new nm x (v (nm, T.cnt nm)))) : Local P o S (S.new nm x (v (nm, S.cnt nm))) := by
  refine ⟨fun y hy => ?_, fun n hy => ?_, fun T hT => ⟨_, h T hT, ?_, fun y hy => ?_, fun y hy => ?_, fun n hy => ?_, fun n hy => ?_⟩⟩
  · rw [hn] at hy
    refine upd_ne _ _ ?_
    rintro rfl
    simp at hy
  · rw [hn] at hy
    refine upd_ne _ _ ?_
    rintro rfl
    simp at hy
  · show v (nm, T.cnt nm) = v (nm, S.cnt nm)
    rw [hT.cnt nm (hr _ (by simp))]
  · rw [hn] at hy
    have hy : y.1 = nm := by simpa using hy
    show upd T.ob (nm, T.cnt nm) (some x) y = upd S.ob (nm, S.cnt nm) (some x) y
    rw [hT.cnt nm (hr _ (by simp))]
    unfold upd
    split
    · rfl
    · exact hT.ob y (hr _ (by simp [hy]))
  · rw [hn] at hy
    refine upd_ne _ _ ?_
    rintro rfl
    simp at hy
  · rw [hn] at hy
    have hy : n = nm := by simpa using hy
    subst hy
    show upd T.cnt n _ n = upd S.cnt n _ n
    rw [upd_same, upd_same, hT.cnt n (hr _ (by simp))]
  · rw [hn] at hy
    refine upd_ne _ _ ?_
    rintro rfl
    simp at hy

/-- An operation that might have made an object, and yields a value alone. -/
theorem local_nil {o : MOp} {nm : Nat} {v : AV} (hn : opWr S o = [(1, nm), (2, nm)]) (hr : ∀ l, l ∈ [(1, nm), (2, nm)] → l ∈ opRd S o) (h : ∀ T, Same (opRd S o) T S → dOp P T o (T.val v)) : Local P o S (S.val v) := by
  refine ⟨fun _ _ => rfl, fun _ _ => rfl, fun T hT => ⟨T.val v, h T hT, rfl, fun z hz => ?_, fun _ _ => rfl, fun n hz => ?_, fun _ _ => rfl⟩⟩
  · rw [hn] at hz
    have hz : z.1 = nm := by simpa using hz
    exact hT.ob z (hr _ (by simp [hz]))
  · rw [hn] at hz
    have hz : n = nm := by simpa using hz
    exact hT.cnt n (hr _ (by simp [hz]))

/-- The same, if it might have written more than it makes. -/
theorem local_keep {o : MOp} {v : AV} (hr : ∀ l, l ∈ opWr S o → l ∈ opRd S o) (h : ∀ T, Same (opRd S o) T S → dOp P T o (T.val v)) : Local P o S (S.val v) := by
  refine ⟨fun _ _ => rfl, fun _ _ => rfl, fun T hT => ⟨T.val v, h T hT, rfl, fun z hz => ?_, fun _ _ => rfl, fun n hz => ?_, fun _ _ => rfl⟩⟩
  · exact hT.ob z (hr _ hz)
  · exact hT.cnt n (hr _ hz)
theorem local_make {o : MOp} {nm : Nat} {x : Ob} {v : Nm → AV} (hn : (1, nm) ∈ opWr S o ∧ (2, nm) ∈ opWr S o) (hr : ∀ l, l ∈ opWr S o → l ∈ opRd S o) (h : ∀ T, Same (opRd S o) T S → dOp P T o (T.new nm x (v (nm, T.cnt nm)))) : Local P o S (S.new nm x (v (nm, S.cnt nm))) := by
  refine ⟨fun y hy => ?_, fun n hy => ?_, fun T hT => ⟨_, h T hT, ?_, fun y hy => ?_, fun y hy => ?_, fun n hy => ?_, fun n hy => ?_⟩⟩
  · refine upd_ne _ _ ?_
    rintro rfl
    exact hy hn.1
  · refine upd_ne _ _ ?_
    rintro rfl
    exact hy hn.2
  · show v (nm, T.cnt nm) = v (nm, S.cnt nm)
    rw [hT.cnt nm (hr _ hn.2)]
  · show upd T.ob (nm, T.cnt nm) (some x) y = upd S.ob (nm, S.cnt nm) (some x) y
    rw [hT.cnt nm (hr _ hn.2)]
    unfold upd
    split
    · rfl
    · exact hT.ob y (hr _ hy)
  · refine upd_ne _ _ ?_
    rintro rfl
    exact hy hn.1
  · show upd T.cnt nm _ n = upd S.cnt nm _ n
    rw [hT.cnt nm (hr _ hn.2)]
    unfold upd
    split
    · rfl
    · exact hT.cnt n (hr _ hy)
  · refine upd_ne _ _ ?_
    rintro rfl
    exact hy hn.2

theorem opRd_arg {o : MOp} {T : St} (h : Same (opRd S o) T S) {x : Arg} (hx : x ∈ opArgs o) : Same (argRd S x) T S := h.mono fun l hl => List.mem_append_left _ (argsRd_mem hx hl)
theorem opRd_ev {o : MOp} {T : St} (h : Same (opRd S o) T S) {x : Arg} (hx : x ∈ opArgs o) : x.ev T = x.ev S := argRd_ev (opRd_arg h hx)

set_option maxHeartbeats 2000000 in
theorem dOp_local {o : MOp} {E : Eff} (h : dOp P S o E) : Local P o S E := by
  cases o with
  | mv x =>
    injection h with h; subst h
    refine local_val rfl fun T hT => ?_
    have e : x.ev T = x.ev S := by
      cases x with
      | tmp t => exact hT.fr t (by simp [opRd, opNewR, opArgs, argsRd, Arg.rd])
      | c v => rfl
    simp [dOp, evOp, e]
  | pick c a b =>
    simp only [dOp, evOp] at h
    split at h
    · rename_i t ht
      injection h with h; subst h
      refine local_val rfl fun T hT => ?_
      simp only [dOp, evOp, opRd_ev hT (x := c) (by simp [opArgs]), opRd_ev hT (x := a) (by simp [opArgs]), opRd_ev hT (x := b) (by simp [opArgs]), ht]
    · cases h
  | alloc nm typ zero =>
    injection h with h; subst h
    exact local_new (v := fun n => .one (.ptr n 0)) rfl (fun l hl => List.mem_append_right _ hl) fun T hT => rfl
  | box nm typ x =>
    simp only [dOp, evOp] at h
    split at h
    · rename_i vs hvs
      injection h with h; subst h
      exact local_new (v := fun n => .one (.ptr n 0)) rfl (fun l hl => List.mem_append_right _ hl) fun T hT => by simp only [dOp, evOp, opRd_ev hT (x := x) (by simp [opArgs]), hvs]
    · cases h
  | build zero parts =>
    simp only [dOp, evOp] at h
    split at h
    · rename_i vs hvs
      injection h with h; subst h
      exact local_val rfl fun T hT => by simp only [dOp, evOp, fillV_eq (T := T) (S := S) (ps := parts) (hT.mono fun l hl => List.mem_append_left _ hl), hvs]
    · cases h
  | mkrow nm typ esz len zero parts =>
    simp only [dOp, evOp] at h
    split at h
    · rename_i vs hvs
      split at h
      · rename_i ts hts
        have key : ∀ T, Same (opRd S (.mkrow nm typ esz len zero parts)) T S → fillV T parts zero = some vs := fun T hT => by
          rw [fillV_eq (T := T) (S := S) (ps := parts) (hT.mono fun l hl => List.mem_append_left _ hl)]
          exact hvs
        split at h
        · rename_i hl
          injection h with h; subst h
          refine local_nil rfl (fun l hl => List.mem_append_right _ hl) fun T hT => ?_
          simp only [dOp, evOp, key T hT, hts, if_pos hl]
        · rename_i hl
          injection h with h; subst h
          exact local_new (v := fun n => .one (.row n)) rfl (fun l hl => List.mem_append_right _ hl) fun T hT => by
            simp only [dOp, evOp, key T hT, hts, if_neg hl]
      · cases h
    · cases h
  | load agg sz x =>
    have key : ∀ T, Same (opRd S (.load agg sz x)) T S → rdAt T sz (x.ev T) = rdAt S sz (x.ev S) := fun T hT => by
      rw [opRd_ev hT (x := x) (by simp [opArgs])]
      exact rdAt_eq (argRd_ob (opRd_arg hT (x := x) (by simp [opArgs])))
    simp only [dOp, evOp] at h
    split at h
    · rename_i vs hvs
      split at h
      · rename_i ha
        injection h with h; subst h
        exact local_val rfl fun T hT => by simp only [dOp, evOp, key T hT, hvs, ha, if_true]
      · rename_i ha
        split at h
        · injection h with h; subst h
          exact local_val rfl fun T hT => by simp only [dOp, evOp, key T hT, hvs, ha, if_false]; simp
        · cases h
    · cases h
  | nilck x =>
    simp only [dOp, evOp] at h
    split at h <;> first | (cases h; done) | skip
    all_goals
      rename_i hv
      injection h with h; subst h
      exact local_val rfl fun T hT => by simp only [dOp, evOp, opRd_ev hT (x := x) (by simp [opArgs]), hv]
  | bin op x y =>
    simp only [dOp, evOp] at h
    split at h
    · rename_i k a k' b h1 h2
      split at h
      · rename_i v hv
        injection h with h; subst h
        exact local_val rfl fun T hT => by simp only [dOp, evOp, opRd_ev hT (x := x) (by simp [opArgs]), opRd_ev hT (x := y) (by simp [opArgs]), h1, h2, hv]
      · cases h
    · cases h
  | eqS neg n x y =>
    simp only [dOp, evOp] at h
    split at h
    · rename_i xs ys h1 h2
      split at h
      · rename_i p q hp hq
        split at h
        · rename_i hk
          injection h with h; subst h
          refine local_val rfl fun T hT => ?_
          simp only [dOp, evOp, opRd_ev hT (x := x) (by simp [opArgs]), opRd_ev hT (x := y) (by simp [opArgs]), h1, h2, hp, hq, if_pos hk]
        · cases h
      · cases h
    · rename_i p q h1 h2
      split at h
      · rename_i hk
        injection h with h; subst h
        refine local_val rfl fun T hT => ?_
        simp only [dOp, evOp, opRd_ev hT (x := x) (by simp [opArgs]), opRd_ev hT (x := y) (by simp [opArgs]), h1, h2, if_pos hk]
      · cases h
    · cases h
  | not x =>
    simp only [dOp, evOp] at h
    split at h
    · rename_i hv
      injection h with h; subst h
      exact local_val rfl fun T hT => by simp only [dOp, evOp, opRd_ev hT (x := x) (by simp [opArgs]), hv]
    · cases h
  | conv k x =>
    simp only [dOp, evOp] at h
    split at h
    · rename_i hv
      injection h with h; subst h
      exact local_val rfl fun T hT => by simp only [dOp, evOp, opRd_ev hT (x := x) (by simp [opArgs]), hv]
    · cases h
  | fieldA off x =>
    simp only [dOp, evOp] at h
    split at h <;> first | (cases h; done) | skip
    all_goals
      rename_i hv
      injection h with h; subst h
      exact local_val rfl fun T hT => by simp only [dOp, evOp, opRd_ev hT (x := x) (by simp [opArgs]), hv]
  | idxA esz x i =>
    simp only [dOp, evOp] at h
    split at h
    · rename_i k j h2
      split at h
      · rename_i n cs h1
        split at h
        · rename_i hc
          injection h with h; subst h
          exact local_val rfl fun T hT => by simp only [dOp, evOp, opRd_ev hT (x := x) (by simp [opArgs]), opRd_ev hT (x := i) (by simp [opArgs]), h1, h2, if_pos hc]
        · cases h
      · rename_i p h1
        split at h
        · rename_i y hy
          split at h
          · rename_i hc
            injection h with h; subst h
            refine local_val rfl fun T hT => ?_
            have hl : T.live p = some y := by
              rw [live_eq (argRd_ob (opRd_arg hT (x := x) (by simp [opArgs])) p (by rw [h1]; simp [AV.refs, V1.refs]))]
              exact hy
            simp only [dOp, evOp, opRd_ev hT (x := x) (by simp [opArgs]), opRd_ev hT (x := i) (by simp [opArgs]), h1, h2, hl, if_pos hc]
          · cases h
        · cases h
      · cases h
    · cases h
  | idxArr len esz x i =>
    simp only [dOp, evOp] at h
    split at h
    · rename_i k j h2
      split at h
      · rename_i hc
        split at h <;> first | (cases h; done) | skip
        all_goals
          rename_i h1
          injection h with h; subst h
          exact local_val rfl fun T hT => by simp only [dOp, evOp, opRd_ev hT (x := x) (by simp [opArgs]), opRd_ev hT (x := i) (by simp [opArgs]), h1, h2, if_pos hc]
      · cases h
    · cases h
  | extract x i =>
    simp only [dOp, evOp] at h
    split at h
    · rename_i ss hss
      split at h <;> first | (cases h; done) | skip
      all_goals
        rename_i hv
        injection h with h; subst h
        exact local_val rfl fun T hT => by simp only [dOp, evOp, opRd_ev hT (x := x) (by simp [opArgs]), hss, hv]
    · cases h
  | len x =>
    simp only [dOp, evOp] at h
    split at h
    · rename_i n cs hcs
      injection h with h; subst h
      refine local_val rfl fun T hT => ?_
      have key : sliceOf T (x.ev T) = some (n, cs) := by
        rw [opRd_ev hT (x := x) (by simp [opArgs]), sliceOf_eq (argRd_ob (opRd_arg hT (x := x) (by simp [opArgs])))]
        exact hcs
      simp only [dOp, evOp, key]
    · cases h
  | minmax isMax x y =>
    simp only [dOp, evOp] at h
    split at h
    · rename_i k a k' b h1 h2
      split at h
      · rename_i hk
        injection h with h; subst h
        exact local_val rfl fun T hT => by simp only [dOp, evOp, opRd_ev hT (x := x) (by simp [opArgs]), opRd_ev hT (x := y) (by simp [opArgs]), h1, h2, hk, if_true]
      · cases h
    · cases h
  | mkfn f caps => exact h.elim
  | make nm typ esz bytes zero l c =>
    simp only [dOp, evOp] at h
    split at h
    · rename_i k p k' q h1 h2
      split at h
      · rename_i hc
        injection h with h; subst h
        exact local_new (v := fun n => .one (.row n)) rfl (fun l hl => List.mem_append_right _ hl) fun T hT => by
          simp only [dOp, evOp, opRd_ev hT (x := l) (by simp [opArgs]), opRd_ev hT (x := c) (by simp [opArgs]), h1, h2, if_pos hc]
      · cases h
    · cases h
  | store sz ax x =>
    have main : ∀ (p : Nm) (off : Nat) (vs ts : List V1) (y : Ob), ax.ev S = .one (.ptr p off) → (∀ T, Same (opRd S (.store sz ax x)) T S → dOp P T (.store sz ax x) ⟨.undef, upd T.ob p (some y), T.cnt⟩) →
        Local P (.store sz ax x) S ⟨.undef, upd S.ob p (some y), S.cnt⟩ := by
      intro p off vs ts y hp hd
      have hw : opWr S (.store sz ax x) = [(1, p.1)] := by simp [opWr, hp, AV.refs, V1.refs]
      refine ⟨fun z hz => ?_, fun _ _ => rfl, fun T hT => ⟨_, hd T hT, rfl, fun z hz => ?_, fun z hz => ?_, fun n hn => ?_, fun _ _ => rfl⟩⟩
      · rw [hw] at hz
        refine upd_ne _ _ ?_
        rintro rfl
        simp at hz
      · rw [hw] at hz
        have hz : z.1 = p.1 := by simpa using hz
        show upd T.ob p _ z = upd S.ob p _ z
        unfold upd
        split
        · rfl
        · exact argRd_ob (opRd_arg hT (x := ax) (by simp [opArgs])) z (by rw [hp]; simp [AV.refs, V1.refs, hz])
      · rw [hw] at hz
        refine upd_ne _ _ ?_
        rintro rfl
        simp at hz
      · rw [hw] at hn
        simp at hn
    simp only [dOp, evOp] at h
    split at h
    · rename_i p off vs hp hvs
      split at h
      · rename_i b hb
        have hlive : ∀ T, Same (opRd S (.store sz ax x)) T S → T.live p = some b := fun T hT => by
          rw [live_eq (argRd_ob (opRd_arg hT (x := ax) (by simp [opArgs])) p (by rw [hp]; simp [AV.refs, V1.refs]))]
          exact hb
        split at h
        · rename_i hc
          split at h
          · rename_i hrow
            split at h
            · rename_i ts hts
              injection h with h; subst h
              exact main p off vs ts _ hp fun T hT => by
                simp only [dOp, evOp, opRd_ev hT (x := ax) (by simp [opArgs]), opRd_ev hT (x := x) (by simp [opArgs]), hp, hvs, hlive T hT, if_pos hc, if_pos hrow, hts]
            · cases h
          · rename_i hrow
            injection h with h; subst h
            exact main p off vs vs _ hp fun T hT => by
              simp only [dOp, evOp, opRd_ev hT (x := ax) (by simp [opArgs]), opRd_ev hT (x := x) (by simp [opArgs]), hp, hvs, hlive T hT, if_pos hc, if_neg hrow]
        · cases h
      · cases h
    · cases h
  | append nm typ esz bytes x y =>
    have hsl : ∀ T, Same (opRd S (.append nm typ esz bytes x y)) T S → sliceOf T (y.ev T) = sliceOf S (y.ev S) := fun T hT => by
      rw [opRd_ev hT (x := y) (by simp [opArgs]), sliceOf_eq (argRd_ob (opRd_arg hT (x := y) (by simp [opArgs])))]
    simp only [dOp, evOp] at h
    split at h
    · rename_i k news hys
      split at h
      · rename_i ts hts
        split at h
        · rename_i hx
          split at h
          · rename_i hc
            split at h
            · rename_i hk
              injection h with h; subst h
              have hw : ∀ z, (1, z) ∈ opWr S (.append nm typ esz bytes x y) ↔ z = nm := fun z => by simp [opWr, hx, AV.refs, V1.refs]
              refine ⟨fun _ _ => rfl, fun _ _ => rfl, fun T hT => ⟨T.val (.one .nil), ?_, rfl, fun z hz => ?_, fun _ _ => rfl, fun n hn => ?_, fun _ _ => rfl⟩⟩
              · simp only [dOp, evOp, hsl T hT, hys, hts, opRd_ev hT (x := x) (by simp [opArgs]), hx, if_pos hc, if_pos hk]
              · exact hT.ob z (List.mem_append_right _ (by rw [(hw _).1 hz]; simp [opNew, opNewR]))
              · have : n = nm := by simpa [opWr, hx, AV.refs, V1.refs] using hn
                subst this
                exact hT.cnt n (List.mem_append_right _ (by simp [opNew, opNewR]))
            · rename_i hk
              injection h with h; subst h
              exact local_new (v := fun n => .one (.row n)) (by simp [opWr, hx, AV.refs, V1.refs]) (fun l hl => List.mem_append_right _ hl) fun T hT => by
                simp only [dOp, evOp, hsl T hT, hys, hts, opRd_ev hT (x := x) (by simp [opArgs]), hx, if_pos hc, if_neg hk]
          · cases h
        · rename_i p hx
          split at h
          · rename_i b hb
            split at h
            · rename_i hc
              injection h with h; subst h
              have hw : opWr S (.append nm typ esz bytes x y) = [(1, p.1), (1, nm), (2, nm)] := by simp [opWr, hx, AV.refs, V1.refs]
              refine ⟨fun z hz => ?_, fun n hn => ?_, fun T hT => ?_⟩
              · rw [hw] at hz
                show upd (upd S.ob p _) (nm, S.cnt nm) _ z = _
                rw [upd_ne _ _ (by rintro rfl; simp at hz), upd_ne _ _ (by rintro rfl; simp at hz)]
              · rw [hw] at hn
                exact upd_ne _ _ (by rintro rfl; simp at hn)
              · have hcnt : T.cnt nm = S.cnt nm := hT.cnt nm (List.mem_append_right _ (by simp [opNew, opNewR]))
                have hobp : ∀ z : Nm, z.1 = p.1 → T.ob z = S.ob z := fun z hz => argRd_ob (opRd_arg hT (x := x) (by simp [opArgs])) z (by rw [hx]; simp [AV.refs, V1.refs, hz])
                have hobn : ∀ z : Nm, z.1 = nm → T.ob z = S.ob z := fun z hz => hT.ob z (List.mem_append_right _ (by simp [opNew, opNewR, hz]))
                have hl : T.live p = some b := by rw [live_eq (hobp p rfl)]; exact hb
                refine ⟨⟨.one (.row (nm, T.cnt nm)), upd (upd T.ob p (some { b with live := false })) (nm, T.cnt nm) (some ⟨true, true, false, esz, b.n + k, typ, b.cells ++ ts⟩), upd T.cnt nm (T.cnt nm + 1)⟩, ?_, by simp only [hcnt], fun z hz => ?_, fun z hz => ?_, fun n hn => ?_, fun n hn => ?_⟩
                · simp only [dOp, evOp, hsl T hT, hys, hts, opRd_ev hT (x := x) (by simp [opArgs]), hx, hl, if_pos hc]
                · rw [hw] at hz
                  simp only [hcnt]
                  unfold upd
                  split
                  · rfl
                  · split
                    · rfl
                    · simp at hz
                      rcases hz with hz | hz
                      · exact hobp z hz
                      · exact hobn z hz
                · rw [hw] at hz
                  show upd (upd T.ob p _) (nm, T.cnt nm) _ z = _
                  rw [upd_ne _ _ (by rintro rfl; simp at hz), upd_ne _ _ (by rintro rfl; simp at hz)]
                · rw [hw] at hn
                  have : n = nm := by simpa using hn
                  subst this
                  show upd T.cnt n _ n = upd S.cnt n _ n
                  rw [upd_same, upd_same, hcnt]
                · rw [hw] at hn
                  exact upd_ne _ _ (by rintro rfl; simp at hn)
            · cases h
          · cases h
        · cases h
      · cases h
    · cases h
  | isnil neg x => exact h.elim
  | call f nm args =>
    have a2 : ∀ T, Same (opRd S (.call f nm args)) T S → Same (argsRd S args) T S := fun T hT => hT.mono fun l hl => List.mem_append_left _ (List.mem_append_right _ hl)
    have a4 : ∀ T, Same (opRd S (.call f nm args)) T S → f.ev T = f.ev S := fun T hT => opRd_ev hT (x := f) (by simp [opArgs])
    have rf : ∀ l, l ∈ (args.map (Arg.ev S)).flatMap AV.refs → l ∈ opRd S (.call f nm args) := fun l hl => by
      obtain ⟨y, hy, hl⟩ := List.mem_flatMap.1 hl
      obtain ⟨x, hx, rfl⟩ := List.mem_map.1 hy
      exact List.mem_append_left _ (List.mem_append_right _ (argsRd_mem hx (List.mem_append_right _ hl)))
    have n1 : (1, nm) ∈ opWr S (.call f nm args) ∧ (2, nm) ∈ opWr S (.call f nm args) := ⟨List.mem_append_left _ (by simp), List.mem_append_left _ (by simp)⟩
    have wr : ∀ l, l ∈ opWr S (.call f nm args) → l ∈ opRd S (.call f nm args) := fun l hl => by
      rcases List.mem_append.1 hl with hl | hl
      · exact List.mem_append_right _ hl
      · split at hl
        · exact rf l hl
        · cases hl
    rcases h with ⟨g, targs, h1, h2, h⟩ | ⟨g, ups, new, v, h1, h2, h3, rfl⟩
    · have a1 : ∀ T, Same (opRd S (.call f nm args)) T S → f.ev T = .one (.fn g []) := fun T hT => (a4 T hT).trans h1
      have a3 : ∀ T, Same (opRd S (.call f nm args)) T S → argTrees ⟨fun _ => .undef, T.ob, T.cnt⟩ (args.map (Arg.ev T)) = some targs := fun T hT => by
        rw [evs_eq (a2 T hT), (argTrees_eq (a2 T hT)).1]
        exact h2
      rcases h with ⟨r, h3, h4, rfl⟩ | ⟨typ, esz, n, cs, h3, rfl⟩
      · refine local_keep wr fun T hT => .inl ⟨g, targs, a1 T hT, a3 T hT, .inl ⟨r, h3, ?_, rfl⟩⟩
        rw [evs_eq (a2 T hT), (argTrees_eq (a2 T hT)).2]
        exact h4
      · unfold rowEff
        by_cases hn : n = 0
        · rw [if_pos hn]
          refine local_keep wr fun T hT => .inl ⟨g, targs, a1 T hT, a3 T hT, .inr ⟨typ, esz, n, cs, h3, ?_⟩⟩
          rw [rowEff, if_pos hn]
        · rw [if_neg hn]
          refine local_make (v := fun n => .one (.row n)) n1 wr fun T hT => .inl ⟨g, targs, a1 T hT, a3 T hT, .inr ⟨typ, esz, n, cs, h3, ?_⟩⟩
          rw [rowEff, if_neg hn]
    · have wm : ∀ l, l ∈ (args.map (Arg.ev S)).flatMap AV.refs → l ∈ opWr S (.call f nm args) := fun l hl => List.mem_append_right _ (by rw [if_pos h2]; exact hl)
      have out : ∀ (ob : Nm → Option Ob) (k : Nat) (x : Nm), (1, x.1) ∉ opWr S (.call f nm args) → putNew new (nm, k) (putAll ups ob) x = ob x := fun ob k x hx => by
        have e1 : putAll ups ob x = ob x := putAll_out fun p hp e => hx (by rw [← e]; exact wm _ (h3.1 p hp))
        cases new with
        | none => exact e1
        | some y =>
          rw [← e1]
          refine upd_ne _ _ ?_
          rintro rfl
          exact hx n1.1
      have outc : ∀ (c : Nat → Nat) n, (2, n) ∉ opWr S (.call f nm args) → cntNew new nm c n = c n := fun c n hx => by
        cases new with
        | none => rfl
        | some y =>
          refine upd_ne _ _ ?_
          rintro rfl
          exact hx n1.2
      refine ⟨fun x hx => out _ _ x hx, fun n hn => outc _ n hn, fun T hT => ⟨effM T nm ups new v, .inr ⟨g, ups, new, v, (a4 T hT).trans h1, by rw [a4 T hT]; exact h2, ?_, rfl⟩, ?_, fun x hx => ?_, fun x hx => out _ _ x hx, fun n hn => ?_, fun n hn => outc _ n hn⟩⟩
      · rw [evs_eq (a2 T hT)]
        exact ⟨h3.1, fun ob cnt ho => h3.2 ob cnt fun o hm => (ho o hm).trans (hT.ob o (rf _ hm))⟩
      · show v (nm, T.cnt nm) = v (nm, S.cnt nm)
        rw [hT.cnt nm (wr _ n1.2)]
      · show putNew new (nm, T.cnt nm) (putAll ups T.ob) x = putNew new (nm, S.cnt nm) (putAll ups S.ob) x
        rw [hT.cnt nm (wr _ n1.2)]
        have e1 : putAll ups T.ob x = putAll ups S.ob x := putAll_same (T := T.ob) (S := S.ob) (hT.ob x (wr _ hx))
        cases new with
        | none => exact e1
        | some y =>
          show upd _ _ _ x = upd _ _ _ x
          unfold upd
          split
          · rfl
          · exact e1
      · show cntNew new nm T.cnt n = cntNew new nm S.cnt n
        have e1 := hT.cnt n (wr _ hn)
        cases new with
        | none => exact e1
        | some y =>
          show upd _ _ _ n = upd _ _ _ n
          rw [hT.cnt nm (wr _ n1.2)]
          unfold upd
          split
          · rfl
          · exact e1
end
end Go.Proofs.YthcnpnogfblkcaaGreat.Abs

/- Regions whose order is open: run in the text's order, if what is unordered does not interfere. -/
namespace Go.Proofs.YthcnpnogfblkcaaGreat.Abs
open Go.RowKit
set_option linter.unusedVariables false
set_option linter.unusedSimpArgs false

def dstL : Option Nat → List SL
  | some t => [(0, t)]
  | none => []

def dAwpOp (P : Program) (S : St) (o : MOp) (K : Eff → Prop) : Prop := match o with
  | .call f nm args => (∃ g targs, f.ev S = .one (.fn g []) ∧ argTrees ⟨fun _ => .undef, S.ob, S.cnt⟩ (args.map (Arg.ev S)) = some targs ∧
      ((∃ r, CallOK P g targs r ∧ (r.plain || (args.map (Arg.ev S)).all (AV.still ⟨fun _ => .undef, S.ob, S.cnt⟩)) = true ∧ K (S.val r.av)) ∨
        ∃ typ esz n cs, CallRow P g targs typ esz n cs ∧ K (rowEff S nm typ esz n cs))) ∨
      ∃ g ups new v, f.ev S = .one (.fn g []) ∧ isMut (f.ev S) = true ∧ CallM P g nm (args.map (Arg.ev S)) S.ob ups new v ∧ K (effM S nm ups new v)
  | .isnil .. => False
  | .mkfn .. => False
  | o => thereIs (evOp S o) K

abbrev Log := List (List SL × List SL)

def drawOps (P : Program) : List MOper → St → Log → (St → Log → Prop) → Prop
  | [], S, L, Q => Q S L
  | o :: r, S, L, Q => match o.guard with
    | none => dAwpOp P S o.op fun E => drawOps P r (S.set o.dst E.v E.ob E.cnt) (L ++ [(opRd S o.op, dstL o.dst ++ opWr S o.op)]) Q
    | some (t, b) => ∃ b', gval (S.fr t) = some b' ∧
        (b' = some b → dAwpOp P S o.op fun E => drawOps P r (S.set o.dst E.v E.ob E.cnt) (L ++ [((0, t) :: opRd S o.op, dstL o.dst ++ opWr S o.op)]) Q) ∧
        (b' ≠ some b → drawOps P r (S.set o.dst .undef S.ob S.cnt) (L ++ [([(0, t)], dstL o.dst)]) Q)

def closAll : List (List Nat) → List (List Nat) → List (List Nat)
  | acc, [] => acc
  | acc, d :: r => closAll (acc ++ [(d ++ d.flatMap (fun j => acc.getD j [])).eraseDups]) r

def lowerAll : Nat → List (List Nat) → Bool
  | _, [] => true
  | i, d :: r => d.all (· < i) && lowerAll (i + 1) r

def disj (a b : List SL) : Bool := a.all fun x => !b.contains x

def indep (C : List (List Nat)) (L : Log) : Bool :=
  (List.range L.length).all fun i => (List.range L.length).all fun j =>
    i == j || (C.getD i []).contains j || (C.getD j []).contains i || (disj (L.getD i ([], [])).2 (L.getD j ([], [])).1 && disj (L.getD i ([], [])).2 (L.getD j ([], [])).2)

/-- The rule. -/
def DR (P : Program) (deps : List (List Nat)) (ops : List MOper) (S : St) (Q : St → Prop) : Prop :=
  drawOps P ops S [] fun S' L => (lowerAll 0 deps && indep (closAll [] deps) L) = true ∧ Q S'

/-! ### Reaching -/
inductive Reach (deps : List (List Nat)) : Nat → Nat → Prop
  | one {i j : Nat} (h : j ∈ deps.getD i []) : Reach deps i j
  | step {i k j : Nat} (h : k ∈ deps.getD i []) (r : Reach deps k j) : Reach deps i j

theorem closAll_spec {deps : List (List Nat)} : ∀ (r acc pre : List (List Nat)), deps = pre ++ r → acc.length = pre.length → (∀ i j, j ∈ acc.getD i [] → Reach deps i j) → ∀ i j, j ∈ (closAll acc r).getD i [] → Reach deps i j
  | [], acc, pre, _, _, h => h
  | d :: r, acc, pre, hd, hl, h => by
    refine closAll_spec r _ (pre ++ [d]) (by rw [hd]; simp) (by simp [hl]) fun i j hj => ?_
    by_cases hi : i < acc.length
    · rw [List.getD_eq_getElem?_getD, List.getElem?_append_left hi, ← List.getD_eq_getElem?_getD] at hj
      exact h i j hj
    · rw [List.getD_eq_getElem?_getD, List.getElem?_append_right (by omega)] at hj
      by_cases hi2 : i = acc.length
      · subst hi2
        simp only [Nat.sub_self, List.getElem?_cons_zero, Option.getD_some, List.mem_eraseDups, List.mem_append, List.mem_flatMap] at hj
        have hdi : deps.getD acc.length [] = d := by
          rw [hd, hl, List.getD_eq_getElem?_getD, List.getElem?_append_right (Nat.le_refl _)]
          simp
        rcases hj with hj | ⟨k, hk, hj⟩
        · exact .one (by rw [hdi]; exact hj)
        · exact .step (by rw [hdi]; exact hk) (h k j hj)
      · rw [List.getElem?_eq_none (by simp; omega)] at hj
        cases hj

theorem lowerAll_spec : ∀ (r : List (List Nat)) (b : Nat), lowerAll b r = true → ∀ i j, j ∈ r.getD i [] → j < b + i
  | [], b, _, i, j, hj => by simp at hj
  | d :: r, b, h, i, j, hj => by
    simp only [lowerAll, Bool.and_eq_true, List.all_eq_true, decide_eq_true_eq] at h
    cases i with
    | zero => exact h.1 j (by simpa using hj)
    | succ i =>
      have := lowerAll_spec r (b + 1) h.2 i j (by simpa using hj)
      omega

theorem Reach.lt {deps : List (List Nat)} (h : lowerAll 0 deps = true) {i j : Nat} (r : Reach deps i j) : j < i := by
  induction r with
  | one hj =>
    have := lowerAll_spec deps 0 h _ _ hj
    omega
  | step hk _ ih =>
    have := lowerAll_spec deps 0 h _ _ hk
    omega

/-- What has been done holds, with each operation, what this one waits for. -/
def Closed (deps : List (List Nat)) (D : Nat → Bool) : Prop := ∀ i, D i = true → ∀ j, j ∈ deps.getD i [] → D j = true

theorem Reach.closed {deps : List (List Nat)} {D : Nat → Bool} (hD : Closed deps D) {i j : Nat} (r : Reach deps i j) : (∀ k, k ∈ deps.getD i [] → D k = true) → D j = true := by
  induction r with
  | one h => exact fun hi => hi _ h
  | step h _ ih => exact fun hi => ih (hD _ (hi _ h))

/-! ### Merged states -/
def over (W : List SL) (T S : St) : St :=
  ⟨fun t => if (0, t) ∈ W then S.fr t else T.fr t, fun o => if (1, o.1) ∈ W then S.ob o else T.ob o, fun n => if (2, n) ∈ W then S.cnt n else T.cnt n⟩

theorem Same.refl (R : List SL) (T : St) : Same R T T := ⟨fun _ _ => rfl, fun _ _ => rfl, fun _ _ => rfl⟩
theorem Same.symm {R : List SL} {T S : St} (h : Same R T S) : Same R S T := ⟨fun t ht => (h.fr t ht).symm, fun o ho => (h.ob o ho).symm, fun n hn => (h.cnt n hn).symm⟩
theorem Same.trans {R : List SL} {T S U : St} (h : Same R T S) (k : Same R S U) : Same R T U := ⟨fun t ht => (h.fr t ht).trans (k.fr t ht), fun o ho => (h.ob o ho).trans (k.ob o ho), fun n hn => (h.cnt n hn).trans (k.cnt n hn)⟩

theorem over_in {W : List SL} {T S : St} {l : SL} (h : l ∈ W) : Same [l] (over W T S) S := by
  refine ⟨fun t ht => ?_, fun o ho => ?_, fun n hn => ?_⟩
  · have e : (0, t) = l := by simpa using ht
    simp [over, e, h]
  · have e : (1, o.1) = l := by simpa using ho
    simp [over, e, h]
  · have e : (2, n) = l := by simpa using hn
    simp [over, e, h]

theorem over_out {W : List SL} {T S : St} {l : SL} (h : l ∉ W) : Same [l] (over W T S) T := by
  refine ⟨fun t ht => ?_, fun o ho => ?_, fun n hn => ?_⟩
  · have e : (0, t) = l := by simpa using ht
    simp [over, e, h]
  · have e : (1, o.1) = l := by simpa using ho
    simp [over, e, h]
  · have e : (2, n) = l := by simpa using hn
    simp [over, e, h]

theorem st_ext {T S : St} (h : ∀ l, Same [l] T S) : T = S := by
  obtain ⟨f, o, c⟩ := T
  obtain ⟨f', o', c'⟩ := S
  congr
  · funext t; exact (h (0, t)).fr t (by simp)
  · funext x; exact (h (1, x.1)).ob x (by simp)
  · funext n; exact (h (2, n)).cnt n (by simp)

def mer (f : Nat → St) (W : Nat → List SL) (D : Nat → Bool) : Nat → St
  | 0 => f 0
  | i + 1 => if D i then over (W i) (mer f W D i) (f (i + 1)) else mer f W D i

theorem mer_same {f : Nat → St} {W : Nat → List SL} {D D' : Nat → Bool} {l : SL} : ∀ n, (∀ j, j < n → l ∈ W j → D j = D' j) → Same [l] (mer f W D n) (mer f W D' n)
  | 0, _ => Same.refl _ _
  | n + 1, h => by
    have ih := mer_same (f := f) (W := W) (D := D) (D' := D') (l := l) n fun j hj => h j (by omega)
    simp only [mer]
    by_cases hl : l ∈ W n
    · rw [h n (by omega) hl]
      split
      · exact (over_in hl).trans (over_in hl).symm
      · exact ih
    · have key : ∀ (b : Bool) (T : St), Same [l] (if b = true then over (W n) T (f (n + 1)) else T) T := by
        intro b T
        cases b
        · exact Same.refl _ _
        · exact over_out hl
      exact (key _ _).trans (ih.trans (key _ _).symm)

/-! ### One operation -/
def DoM (P : Program) (o : MOper) (T T' : St) : Prop := match o.guard with
  | none => ∃ E, dOp P T o.op E ∧ T' = T.set o.dst E.v E.ob E.cnt
  | some (t, b) => ∃ b', gval (T.fr t) = some b' ∧ ((b' = some b ∧ ∃ E, dOp P T o.op E ∧ T' = T.set o.dst E.v E.ob E.cnt) ∨ (b' ≠ some b ∧ T' = T.set o.dst .undef T.ob T.cnt))

structure Ev1 (P : Program) (o : MOper) (S S' : St) (R W : List SL) : Prop where
  out : ∀ l, l ∉ W → Same [l] S' S
  loc : ∀ T, Same R T S → ∃ T', DoM P o T T' ∧ (∀ l, l ∈ W → Same [l] T' S') ∧ (∀ l, l ∉ W → Same [l] T' T)

theorem opWr_kind {S : St} {o : MOp} {t : Nat} : (0, t) ∉ opWr S o := by
  have h1 : ∀ v : V1, (0, t) ∉ v.refs := fun v => by cases v <;> simp [V1.refs]
  have h2 : ∀ vs : List V1, (0, t) ∉ refsL vs := by
    intro vs
    induction vs with
    | nil => simp [refsL]
    | cons v r ih => simp [refsL, h1 v, ih]
  have h3 : ∀ v : AV, (0, t) ∉ v.refs := fun v => by
    cases v with
    | one v => exact h1 v
    | agg vs => exact h2 vs
    | _ => simp [AV.refs]
  have h4 : ∀ vs : List AV, (0, t) ∉ vs.flatMap AV.refs := fun vs h => by
    obtain ⟨v, _, hv⟩ := List.mem_flatMap.1 h
    exact h3 v hv
  cases o with
  | call f nm args =>
    intro h
    rcases List.mem_append.1 h with h | h
    · simp at h
    · split at h
      · exact h4 _ h
      · cases h
  | _ => simp [opWr, opNew, h3]

/-- One operation with its effect, between two states. -/
theorem set_out {S : St} {d : Option Nat} {v : AV} {ob : Nm → Option Ob} {cnt : Nat → Nat} {W : List SL} (h1 : ∀ x : Nm, (1, x.1) ∉ W → ob x = S.ob x) (h2 : ∀ n, (2, n) ∉ W → cnt n = S.cnt n) :
    ∀ l, l ∉ dstL d ++ W → Same [l] (S.set d v ob cnt) S := by
  intro l hl
  simp only [List.mem_append, not_or] at hl
  refine ⟨fun t ht => ?_, fun o ho => ?_, fun n hn => ?_⟩
  · have e : (0, t) = l := by simpa using ht
    cases d with
    | none => rfl
    | some q =>
      refine upd_ne _ _ ?_
      rintro rfl
      exact hl.1 (by simp [dstL, ← e])
  · have e : (1, o.1) = l := by simpa using ho
    exact h1 o (by rw [e]; exact hl.2)
  · have e : (2, n) = l := by simpa using hn
    exact h2 n (by rw [e]; exact hl.2)

theorem set_in {S T : St} {d : Option Nat} {v : AV} {ob ob' : Nm → Option Ob} {cnt cnt' : Nat → Nat} {W : List SL} (hk : ∀ t, (0, t) ∉ W) (h1 : ∀ x : Nm, (1, x.1) ∈ W → ob' x = ob x) (h2 : ∀ n, (2, n) ∈ W → cnt' n = cnt n) :
    ∀ l, l ∈ dstL d ++ W → Same [l] (T.set d v ob' cnt') (S.set d v ob cnt) := by
  intro l hl
  refine ⟨fun t ht => ?_, fun o ho => ?_, fun n hn => ?_⟩
  · have e : (0, t) = l := by simpa using ht
    subst e
    rcases List.mem_append.1 hl with h | h
    · cases d with
      | none => cases h
      | some q =>
        have : t = q := by simpa [dstL] using h
        subst this
        simp [St.set, upd]
    · exact absurd h (hk t)
  · have e : (1, o.1) = l := by simpa using ho
    subst e
    rcases List.mem_append.1 hl with h | h
    · cases d <;> simp [dstL] at h
    · exact h1 o h
  · have e : (2, n) = l := by simpa using hn
    subst e
    rcases List.mem_append.1 hl with h | h
    · cases d <;> simp [dstL] at h
    · exact h2 n h

section
variable {P : Program} {S : St}

theorem ev1_go {o : MOper} {E : Eff} {R : List SL} (h : dOp P S o.op E) (hg : match o.guard with | none => R = opRd S o.op | some (t, b) => gval (S.fr t) = some (some b) ∧ R = (0, t) :: opRd S o.op) :
    Ev1 P o S (S.set o.dst E.v E.ob E.cnt) R (dstL o.dst ++ opWr S o.op) := by
  obtain ⟨l1, l2, l3⟩ := dOp_local h
  refine ⟨set_out l1 l2, fun T hT => ?_⟩
  have hR : Same (opRd S o.op) T S := by
    split at hg
    · rw [← hg]; exact hT
    · exact hT.mono fun l hl => by rw [hg.2]; exact List.mem_cons_of_mem _ hl
  obtain ⟨E', e1, e2, e3, e4, e5, e6⟩ := l3 T hR
  refine ⟨T.set o.dst E'.v E'.ob E'.cnt, ?_, by rw [e2]; exact set_in (fun t => opWr_kind) e3 e5, set_out e4 e6⟩
  unfold DoM
  split at hg
  · exact ⟨E', e1, rfl⟩
  · rename_i t b h0
    exact ⟨some b, by rw [hT.fr t (by rw [hg.2]; simp)]; exact hg.1, .inl ⟨rfl, E', e1, rfl⟩⟩

theorem ev1_skip {o : MOper} {t : Nat} {b : Bool} {b' : Option Bool} (hg : o.guard = some (t, b)) (hv : gval (S.fr t) = some b') (hb : b' ≠ some b) :
    Ev1 P o S (S.set o.dst .undef S.ob S.cnt) [(0, t)] (dstL o.dst) := by
  refine ⟨fun l hl => set_out (W := []) (fun _ _ => rfl) (fun _ _ => rfl) l (by simpa using hl), fun T hT => ⟨T.set o.dst .undef T.ob T.cnt, ?_, fun l hl => ?_, fun l hl => set_out (W := []) (fun _ _ => rfl) (fun _ _ => rfl) l (by simpa using hl)⟩⟩
  · unfold DoM
    rw [hg]
    exact ⟨b', by rw [hT.fr t (by simp)]; exact hv, .inr ⟨hb, rfl⟩⟩
  · exact set_in (W := []) (fun t => by simp) (fun x hx => by cases hx) (fun n hn => by cases hn) l (by simpa using hl)

theorem dAwp_dOp {o : MOp} {K : Eff → Prop} (h : dAwpOp P S o K) : ∃ E, dOp P S o E ∧ K E := by
  cases o with
  | call f nm args =>
    rcases h with ⟨g, targs, h1, h2, ⟨r, h3, h4, h5⟩ | ⟨typ, esz, n, cs, h3, h5⟩⟩ | ⟨g, ups, new, v, h1, h2, h3, h5⟩
    · exact ⟨_, .inl ⟨g, targs, h1, h2, .inl ⟨r, h3, h4, rfl⟩⟩, h5⟩
    · exact ⟨_, .inl ⟨g, targs, h1, h2, .inr ⟨typ, esz, n, cs, h3, rfl⟩⟩, h5⟩
    · exact ⟨_, .inr ⟨g, ups, new, v, h1, h2, h3, rfl⟩, h5⟩
  | isnil => exact h.elim
  | mkfn => exact h.elim
  | _ => obtain ⟨E, he, hk⟩ := h; exact ⟨E, he, hk⟩

theorem draw_trace : ∀ (ops : List MOper) (S : St) (L : Log) (Q : St → Log → Prop), drawOps P ops S L Q → ∃ (f : Nat → St) (L1 : Log), f 0 = S ∧ L1.length = ops.length ∧ Q (f ops.length) (L ++ L1) ∧
    ∀ i o, ops[i]? = some o → Ev1 P o (f i) (f (i + 1)) (L1.getD i ([], [])).1 (L1.getD i ([], [])).2
  | [], S, L, Q, h => ⟨fun _ => S, [], rfl, rfl, by rw [List.append_nil]; exact h, fun i o hi => by simp at hi⟩
  | o :: r, S, L, Q, h => by
    have build : ∀ (S' : St) (R W : List SL), Ev1 P o S S' R W → drawOps P r S' (L ++ [(R, W)]) Q → ∃ (f : Nat → St) (L1 : Log), f 0 = S ∧ L1.length = (o :: r).length ∧ Q (f (o :: r).length) (L ++ L1) ∧
        ∀ i o', (o :: r)[i]? = some o' → Ev1 P o' (f i) (f (i + 1)) (L1.getD i ([], [])).1 (L1.getD i ([], [])).2 := by
      intro S' R W he hd
      obtain ⟨f, L1, h1, h2, h3, h4⟩ := draw_trace r S' _ Q hd
      refine ⟨fun i => match i with | 0 => S | i + 1 => f i, (R, W) :: L1, rfl, by simp [h2], by simpa using h3, fun i o' hi => ?_⟩
      cases i with
      | zero =>
        have : o = o' := by simpa using hi
        subst this
        show Ev1 P o S (f 0) R W
        rw [h1]
        exact he
      | succ i => exact h4 i o' (by simpa using hi)
    simp only [drawOps] at h
    split at h
    · rename_i hg
      obtain ⟨E, he, hk⟩ := dAwp_dOp h
      exact build _ _ _ (ev1_go he (by rw [hg])) hk
    · rename_i t b hg
      obtain ⟨b', hb, h1, h2⟩ := h
      by_cases e : b' = some b
      · subst e
        obtain ⟨E, he, hk⟩ := dAwp_dOp (h1 rfl)
        exact build _ _ _ (ev1_go he (by rw [hg]; exact ⟨hb, rfl⟩)) hk
      · exact build _ _ _ (ev1_skip hg hb e) (h2 e)
end
end Go.Proofs.YthcnpnogfblkcaaGreat.Abs

/- The rule for regions whose order is open is sound. -/
namespace Go.Proofs.YthcnpnogfblkcaaGreat.Abs
open Go.RowKit
set_option linter.unusedVariables false
set_option linter.unusedSimpArgs false

theorem filter_lt {α : Type} (p q : α → Bool) : ∀ (l : List α), (∀ x ∈ l, q x = true → p x = true) → (∃ x ∈ l, p x = true ∧ q x = false) → (l.filter q).length < (l.filter p).length
  | [], _, h => by obtain ⟨x, hx, _⟩ := h; cases hx
  | y :: l, h, h' => by
    have le : ∀ (l : List α), (∀ x ∈ l, q x = true → p x = true) → (l.filter q).length ≤ (l.filter p).length := by
      intro l
      induction l with
      | nil => intro _; simp
      | cons z l ih =>
        intro hl
        have := ih fun x hx => hl x (List.mem_cons_of_mem _ hx)
        have hz := hl z (List.mem_cons_self ..)
        cases hq : q z <;> cases hp : p z <;> simp [List.filter_cons, hq, hp] <;> first | omega | (rw [hq, hp] at hz; simp at hz)
    obtain ⟨x, hx, h1, h2⟩ := h'
    have hy := h y (List.mem_cons_self ..)
    rcases List.mem_cons.1 hx with rfl | hx
    · have := le l fun x hx => h x (List.mem_cons_of_mem _ hx)
      simp [List.filter_cons, h1, h2]
      omega
    · have := filter_lt p q l (fun x hx => h x (List.mem_cons_of_mem _ hx)) ⟨x, hx, h1, h2⟩
      cases hq : q y <;> cases hp : p y <;> simp [List.filter_cons, hq, hp] <;> first | omega | (rw [hq, hp] at hy; simp at hy)

theorem indep_spec {C : List (List Nat)} {L : Log} (h : indep C L = true) {i j : Nat} (hi : i < L.length) (hj : j < L.length) (hne : i ≠ j) :
    j ∈ C.getD i [] ∨ i ∈ C.getD j [] ∨ (∀ l, l ∈ (L.getD i ([], [])).2 → l ∉ (L.getD j ([], [])).1 ∧ l ∉ (L.getD j ([], [])).2) := by
  unfold indep at h
  rw [List.all_eq_true] at h
  have h := h i (List.mem_range.2 hi)
  rw [List.all_eq_true] at h
  have h := h j (List.mem_range.2 hj)
  simp only [Bool.or_eq_true, beq_iff_eq, List.contains_eq_mem, decide_eq_true_eq, Bool.and_eq_true, disj, List.all_eq_true, Bool.not_eq_true', decide_eq_false_iff_not] at h
  rcases h with ((h | h) | h) | h
  · exact absurd h hne
  · exact .inl h
  · exact .inr (.inl h)
  · exact .inr (.inr fun l hl => ⟨h.1 l hl, h.2 l hl⟩)

section
variable {P : Program} {a : Act} {w w0 : World} {I : Ini} {Zc : Nat → Prop} {N : Nat} {m : Map} {S : St}

theorem awp_of_dOp {o : MOp} {E : Eff} (h : dOp P S o E) : awpOp P o S fun v ob cnt => v = E.v ∧ ob = E.ob ∧ cnt = E.cnt := by
  cases o with
  | call f nm args =>
    rcases h with ⟨g, targs, h1, h2, ⟨r, h3, h4, rfl⟩ | ⟨typ, esz, n, cs, h3, rfl⟩⟩ | ⟨g, ups, new, v, h1, h2, h3, rfl⟩
    · exact ⟨g, [], h1, callS_tree h3 (by simpa using h2) (by simpa using h4) ⟨rfl, rfl, rfl⟩⟩
    · refine ⟨g, [], h1, callS_row nm h3 (by simpa using h2) ?_⟩
      unfold rowEff
      by_cases hn : n = 0
      · simp only [if_pos hn]
        exact ⟨rfl, rfl, rfl⟩
      · simp only [if_neg hn]
        exact ⟨rfl, rfl, rfl⟩
    · refine ⟨g, [], h1, ?_⟩
      rw [List.map_nil, List.append_nil]
      exact h3.2 S.ob S.cnt fun _ _ => rfl
  | isnil => exact h.elim
  | mkfn => exact h.elim
  | _ => exact ⟨E, h, rfl, rfl, rfl⟩

theorem sim_below {w' : World} (s : Sim w0 I Zc N m S a w) (hb : Below w.heap.size w w') : Sim w0 I Zc N m S a w' :=
  ⟨hr_below s.heap hb, s.defers, s.size, fun t => AVR.ext (ext_below hb _) (s.fr t), s.past.trans (ext_below hb _)⟩

theorem cOpers_get {N : Nat} {all : List Oper} : ∀ (ol : List Oper) (nm : Nat) (l : List MOper), cOpers P N all nm ol = some l → l.length = ol.length ∧ ∀ (i : Nat) o, ol[i]? = some o → ∃ x nm', l[i]? = some x ∧ cOper P N nm' all o = some x
  | [], nm, l, h => by
    injection h with h; subst h
    exact ⟨rfl, fun i o hi => by simp at hi⟩
  | o :: r, nm, l, h => by
    simp only [cOpers, Option.bind_eq_some_iff, Option.map_eq_some_iff] at h
    obtain ⟨x, hx, l', hl, rfl⟩ := h
    obtain ⟨i1, i2⟩ := cOpers_get r _ l' hl
    refine ⟨by simp [i1], fun i o' hi => ?_⟩
    cases i with
    | zero =>
      have : o = o' := by simpa using hi
      subst this
      exact ⟨x, nm, rfl, hx⟩
    | succ i => exact i2 i o' (by simpa using hi)

/-- One operation of a region, wherever it comes. -/
theorem dom_wp {ops : Array Oper} {o : Oper} {x : MOper} {i nm : Nat} {T T' : St} {K : Act → World → Prop} {Qc : Exit → Act → World → Prop} (s : Sim w0 I Zc N m T a w) (hi : ops[i]? = some o) (hx : cOper P N nm ops.toList o = some x) (hd : DoM P x T T')
    (hK : ∀ m' a' w', Sim w0 I Zc N m' T' a' w' → K a' w') : wpOp P ops Qc i K a w := by
  obtain ⟨hdst, hxd, hmo, hg⟩ := dstOk_of hx
  have go : (∃ E, dOp P T x.op E ∧ T' = T.set x.dst E.v E.ob E.cnt) → o.wp P a w K Qc := by
    rintro ⟨E, he, rfl⟩
    refine op_wp s hmo (awp_of_dOp he) _ _ fun v u w' m' ob cnt hk h1 h2 h3 => ?_
    obtain ⟨rfl, rfl, rfl⟩ := hk
    refine hK m' _ w' ?_
    rw [hxd]
    exact sim_put s hdst h1 h2 h3
  unfold wpOp
  rw [hi]
  simp only
  unfold DoM at hd
  rcases hg with ⟨g1, g2⟩ | ⟨j, b, t, oj, g1, g2, g3, g4⟩
  · rw [g2] at hd
    rw [wanted_none g1, if_pos rfl]
    exact .inl (go hd)
  · rw [g4] at hd
    obtain ⟨b', hb, h⟩ := hd
    rw [wanted_some s g1 g2 g3 hb]
    rcases h with ⟨e, h⟩ | ⟨e, h⟩
    · rw [if_pos (by simpa using e)]
      exact .inl (go h)
    · rw [if_neg (by simpa using e)]
      refine hK m _ w ?_
      rw [h, hxd]
      exact sim_put s hdst s.heap (Ext.refl ..) rfl

theorem deps_get {ops : Array Oper} {i : Nat} {o : Oper} (h : ops[i]? = some o) : (ops.toList.map depsOf).getD i [] = depsOf o := by
  rw [List.getD_eq_getElem?_getD, List.getElem?_map, Array.getElem?_toList, h]
  rfl

theorem ready_deps {ops : Array Oper} {listed : Array Bool} {i : Nat} (h : i ∈ Region.ready .any ops listed) : i < ops.size ∧ listed.getD i true = false ∧ ∀ j, j ∈ (ops.toList.map depsOf).getD i [] → listed.getD j false = true := by
  simp only [Region.ready, List.mem_filter, List.mem_range, Bool.and_eq_true, Bool.not_eq_true'] at h
  obtain ⟨h1, h2, h3⟩ := h
  refine ⟨h1, h2, fun j hj => ?_⟩
  rw [Array.getElem?_eq_getElem h1] at h3
  rw [deps_get (Array.getElem?_eq_getElem h1)] at hj
  simp only [Option.map_some, Option.getD_some, Array.all_eq_true'] at h3
  simp only [depsOf, List.mem_map, List.mem_filter] at hj
  obtain ⟨e, ⟨he, hb⟩, rfl⟩ := hj
  have := h3 e (by simpa using he)
  simpa [hb] using this

theorem ready_of {ops : Array Oper} {listed : Array Bool} {i : Nat} (h1 : i < ops.size) (h2 : listed.getD i true = false) (h3 : ∀ j, j ∈ (ops.toList.map depsOf).getD i [] → listed.getD j false = true) : i ∈ Region.ready .any ops listed := by
  simp only [Region.ready, List.mem_filter, List.mem_range, Bool.and_eq_true, Bool.not_eq_true']
  refine ⟨h1, h2, ?_⟩
  rw [Array.getElem?_eq_getElem h1]
  rw [deps_get (Array.getElem?_eq_getElem h1)] at h3
  simp only [Option.map_some, Option.getD_some, Array.all_eq_true']
  intro e he
  cases hb : Region.binds .any e with
  | false => simp
  | true =>
    simp only [Bool.not_true, Bool.false_or]
    exact h3 e.on (by simp only [depsOf, List.mem_map, List.mem_filter]; exact ⟨e, ⟨by simpa using he, hb⟩, rfl⟩)

/-- What has been done, as a test. -/
def doneB (n : Nat) (listed : Array Bool) (i : Nat) : Bool := decide (i < n) && listed.getD i false

theorem any_of {ops : Array Oper} {l : List MOper} {nm : Nat} {f : Nat → St} {L : Log} {Qc : Exit → Act → World → Prop} (hl : cOpers P N ops.toList nm ops.toList = some l) (hlow : lowerAll 0 (ops.toList.map depsOf) = true)
    (hind : indep (closAll [] (ops.toList.map depsOf)) L = true) (hL : L.length = l.length) (hev : ∀ i o, l[i]? = some o → Ev1 P o (f i) (f (i + 1)) (L.getD i ([], [])).1 (L.getD i ([], [])).2)
    (hq : ∀ m' a' w', Sim w0 I Zc N m' (f l.length) a' w' → Qc .normal a' w') :
    ∀ (fuel : Nat) (listed : Array Bool) (a : Act) (w : World) (m : Map), listed.size = ops.size → Closed (ops.toList.map depsOf) (doneB ops.size listed) → ((List.range ops.size).filter fun i => !listed.getD i false).length ≤ fuel →
      Sim w0 I Zc N m (mer f (fun i => (L.getD i ([], [])).2) (doneB ops.size listed) ops.size) a w → wpAny P .any ops Qc fuel listed a w := by
  obtain ⟨hlen, hget⟩ := cOpers_get _ _ _ hl
  have hlen : l.length = ops.size := by simpa using hlen
  let W : Nat → List SL := fun i => (L.getD i ([], [])).2
  have hopl : ∀ i, i < ops.size → ∃ o x nm', ops[i]? = some o ∧ l[i]? = some x ∧ cOper P N nm' ops.toList o = some x := by
    intro i hi
    obtain ⟨x, nm', h1, h2⟩ := hget i ops[i] (by simp [hi])
    exact ⟨ops[i], x, nm', Array.getElem?_eq_getElem hi, h1, h2⟩
  -- all that lies below i, in the text's order
  have mer_all : ∀ i, i ≤ ops.size → ∀ q, Same [q] (mer f W (fun _ => true) i) (f i) := by
    intro i
    induction i with
    | zero => exact fun _ q => Same.refl _ _
    | succ i ih =>
      intro hi q
      obtain ⟨o, x, nm', _, hx, _⟩ := hopl i (by omega)
      have he := hev i x hx
      simp only [mer, if_true]
      by_cases hw : q ∈ W i
      · exact over_in hw
      · exact (over_out hw).trans ((ih (by omega) q).trans (he.out q hw).symm)
  have mer_low : ∀ (n : Nat) (D : Nat → Bool) (q : SL) (i : Nat), i ≤ n → (∀ j, j < n → q ∈ W j → D j = decide (j < i)) → Same [q] (mer f W D n) (mer f W (fun _ => true) i) := by
    intro n D q i hin h
    have h1 : Same [q] (mer f W D n) (mer f W (fun j => decide (j < i)) n) := mer_same n h
    refine h1.trans ?_
    clear h1 h
    induction n with
    | zero =>
      have : i = 0 := by omega
      subst this
      exact Same.refl _ _
    | succ n ih =>
      by_cases hi : i = n + 1
      · subst hi
        exact mer_same (n + 1) fun j hj _ => by simp [hj]
      · simp only [mer]
        rw [if_neg (by simp; omega)]
        exact ih (by omega)
  have reach : ∀ i j, j ∈ (closAll [] (ops.toList.map depsOf)).getD i [] → Reach (ops.toList.map depsOf) i j :=
    closAll_spec _ [] [] rfl rfl fun i j h => by simp at h
  have allDone : ∀ (listed : Array Bool), listed.size = ops.size → Closed (ops.toList.map depsOf) (doneB ops.size listed) → Region.ready .any ops listed = [] → ∀ i, i < ops.size → listed.getD i false = true := by
    intro listed hsz hcl hr i
    induction i using Nat.strongRecOn with
    | _ i ih =>
      intro hi
      cases hli : listed.getD i false with
      | true => rfl
      | false =>
        exfalso
        have hli' : listed.getD i true = false := by
          rw [Array.getD_eq_getD_getElem?, Array.getElem?_eq_getElem (by omega)] at hli ⊢
          simpa using hli
        have := ready_of hi hli' fun j hj => ih j (Reach.lt hlow (.one hj)) (by have := Reach.lt hlow (.one hj); omega)
        rw [hr] at this
        cases this
  have fin : ∀ (listed : Array Bool) (a : Act) (w : World) (m : Map), listed.size = ops.size → Closed (ops.toList.map depsOf) (doneB ops.size listed) → Sim w0 I Zc N m (mer f W (doneB ops.size listed) ops.size) a w → Region.ready .any ops listed = [] → Qc .normal a w := by
    intro listed a w m hsz hcl hs hr
    have hall := allDone listed hsz hcl hr
    have e : mer f W (doneB ops.size listed) ops.size = f l.length := by
      rw [hlen]
      refine st_ext fun q => (mer_same ops.size fun j hj _ => ?_).trans (mer_all _ (Nat.le_refl _) q)
      simp [doneB, hj, hall j hj]
    rw [e] at hs
    exact hq m a w hs
  intro fuel
  induction fuel with
  | zero =>
    intro listed a w m hsz hcl hfuel hs
    have hr : Region.ready .any ops listed = [] := by
      cases hr : Region.ready .any ops listed with
      | nil => rfl
      | cons i r =>
        exfalso
        obtain ⟨h1, h2, _⟩ := ready_deps (i := i) (by rw [hr]; simp)
        have hmem : i ∈ (List.range ops.size).filter fun i => !listed.getD i false := by
          simp only [List.mem_filter, List.mem_range]
          refine ⟨h1, ?_⟩
          rw [Array.getD_eq_getD_getElem?, Array.getElem?_eq_getElem (by omega)] at h2 ⊢
          simpa using h2
        have := List.length_pos_of_mem hmem
        omega
    exact ⟨hr, fin listed a w m hsz hcl hs hr⟩
  | succ fuel ihf =>
    intro listed a w m hsz hcl hfuel hs
    refine ⟨fin listed a w m hsz hcl hs, fun i hi => ?_⟩
    obtain ⟨h1, h2, h3⟩ := ready_deps hi
    have h2' : listed.getD i false = false := by
      rw [Array.getD_eq_getD_getElem?, Array.getElem?_eq_getElem (by omega)] at h2 ⊢
      simpa using h2
    obtain ⟨o, x, nm', ho, hx, hco⟩ := hopl i h1
    have he := hev i x hx
    have hDi : doneB ops.size listed i = false := by simp [doneB, h2']
    have hdeps : ∀ k, k ∈ (ops.toList.map depsOf).getD i [] → doneB ops.size listed k = true := by
      intro k hk
      have := Reach.lt hlow (.one hk)
      simp only [doneB, h3 k hk, Bool.and_true, decide_eq_true_eq]
      omega
    have order : ∀ j, j < ops.size → j ≠ i → (j ∈ (closAll [] (ops.toList.map depsOf)).getD i [] ∨ i ∈ (closAll [] (ops.toList.map depsOf)).getD j []) → doneB ops.size listed j = decide (j < i) := by
      intro j hj hne h
      rcases h with h | h
      · have hr := reach i j h
        have := hr.lt hlow
        rw [hr.closed hcl hdeps]
        simp [this]
      · have hr := reach j i h
        have := hr.lt hlow
        have hn : doneB ops.size listed j = false := by
          cases hd : doneB ops.size listed j with
          | false => rfl
          | true =>
            have := hr.closed hcl (hcl j hd)
            rw [hDi] at this
            cases this
        rw [hn]
        simp
        omega
    -- the state here agrees with the text's, on what is read
    have hread : Same (L.getD i ([], [])).1 (mer f W (doneB ops.size listed) ops.size) (f i) := by
      have one : ∀ q, q ∈ (L.getD i ([], [])).1 → Same [q] (mer f W (doneB ops.size listed) ops.size) (f i) := by
        intro q hq
        refine (mer_low ops.size _ q i (by omega) fun j hj hw => ?_).trans (mer_all i (by omega) q)
        by_cases hne : j = i
        · subst hne
          rw [hDi]
          simp
        · rcases indep_spec hind (i := j) (j := i) (by omega) (by omega) hne with h | h | h
          · exact order j hj hne (.inr h)
          · exact order j hj hne (.inl h)
          · exact absurd hq (h q hw).1
      exact ⟨fun t ht => (one _ ht).fr t (by simp), fun y hy => (one _ hy).ob y (by simp), fun n hn => (one _ hn).cnt n (by simp)⟩
    obtain ⟨T', hdo, hin, hout⟩ := he.loc _ hread
    have hset : ∀ j, (listed.setIfInBounds i true).getD j false = if j = i then true else listed.getD j false := by
      intro j
      simp only [Array.getD_eq_getD_getElem?, Array.getElem?_setIfInBounds]
      by_cases hj : i = j
      · subst hj
        simp [hsz, h1]
      · rw [if_neg hj, if_neg (fun h => hj h.symm)]
    have hset' : ∀ j, doneB ops.size (listed.setIfInBounds i true) j = if j = i then true else doneB ops.size listed j := by
      intro j
      unfold doneB
      rw [hset]
      split
      · rename_i e
        subst e
        simp [h1]
      · rfl
    have hT : T' = mer f W (doneB ops.size (listed.setIfInBounds i true)) ops.size := by
      refine st_ext fun q => ?_
      by_cases hw : q ∈ W i
      · refine (hin q hw).trans ((mer_low ops.size _ q (i + 1) (by omega) fun j hj hwj => ?_).trans (mer_all (i + 1) (by omega) q)).symm
        rw [hset']
        by_cases hne : j = i
        · subst hne
          simp
        · rw [if_neg hne]
          have : doneB ops.size listed j = decide (j < i) := by
            rcases indep_spec hind (i := j) (j := i) (by omega) (by omega) hne with h | h | h
            · exact order j hj hne (.inr h)
            · exact order j hj hne (.inl h)
            · exact absurd hw (h q hwj).2
          rw [this]
          congr 1
          simp
          omega
      · refine (hout q hw).trans (mer_same ops.size fun j hj hwj => ?_)
        rw [hset', if_neg]
        rintro rfl
        exact hw hwj
    refine dom_wp hs ho hco hdo fun m' a' w' hs' => ?_
    refine ihf _ a' w' m' (by simpa using hsz) (fun j hj k hk => ?_) ?_ (by rw [← hT]; exact hs')
    · rw [hset'] at hj ⊢
      split
      · rfl
      · by_cases e : j = i
        · subst e
          exact hdeps k hk
        · rw [if_neg e] at hj
          exact hcl j hj k hk
    · have := filter_lt (fun j => !listed.getD j false) (fun j => !(listed.setIfInBounds i true).getD j false) (List.range ops.size) (fun j _ hj => by
        rw [hset] at hj
        split at hj
        · cases hj
        · exact hj) ⟨i, List.mem_range.2 h1, by simp [h2'], by rw [hset]; simp⟩
      omega

theorem dr_sound (hm : P.follows .mixedOrders = true) : DSound P (DR P) := by
  intro w0 I Zc N m S a w id nm ops l Q Qc hl s h hq
  obtain ⟨f, L, h1, h2, ⟨h3, h3'⟩, h4⟩ := draw_trace _ _ _ _ h
  simp only [List.nil_append, Bool.and_eq_true] at h3
  refine wp_region_any hm (any_of hl h3.1 h3.2 h2 h4 (fun m' a' w' hs => hq _ m' a' w' h3' hs) ops.size _ a _ m (by simp) (fun i hi => ?_) ?_ ?_)
  · have hd : doneB ops.size (Array.replicate ops.size false) i = false := by
      simp only [doneB, Array.getD_eq_getD_getElem?, Array.getElem?_replicate]
      split <;> simp
    rw [hd] at hi
    cases hi
  · refine Nat.le_trans (List.length_filter_le _ _) ?_
    simp
  · have e : mer f (fun i => (L.getD i ([], [])).2) (doneB ops.size (Array.replicate ops.size false)) ops.size = f 0 := by
      have hd : ∀ i, doneB ops.size (Array.replicate ops.size false) i = false := by
        intro i
        simp only [doneB, Array.getD_eq_getD_getElem?, Array.getElem?_replicate]
        split <;> simp
      have : ∀ n, mer f (fun i => (L.getD i ([], [])).2) (doneB ops.size (Array.replicate ops.size false)) n = f 0 := by
        intro n
        induction n with
        | zero => rfl
        | succ n ih => simp only [mer, hd, ih]; rfl
      exact this _
    rw [e, h1]
    exact sim_below s ((Below.refl _ w).drew)
end
end Go.Proofs.YthcnpnogfblkcaaGreat.Abs

/- Words and small lemmas for the functions' proofs: numbers that fit, lists of numbers as trees. -/
namespace Go.Proofs.YthcnpnogfblkcaaGreat.Abs
open Go.RowKit
set_option linter.unusedVariables false

theorem wrap64_id {n : Int} (h1 : -9223372036854775808 ≤ n) (h2 : n ≤ 9223372036854775807) : IntKind.i64.wrap n = n := by
  have e : IntKind.i64.wrap n = if n % 18446744073709551616 ≥ 9223372036854775808 then n % 18446744073709551616 - 18446744073709551616 else n % 18446744073709551616 := by
    simp [IntKind.wrap, IntKind.bits, IntKind.signed]
  rw [e]
  split <;> omega

/-- A slice of ints, as a tree. -/
def ints (l : List Int) : C := .sl l.length (l.map (.int .i64))

theorem thereIs_some {E : Eff} {K : Eff → Prop} : thereIs (some E) K = K E := by simp [thereIs]
theorem thereIs_none {K : Eff → Prop} : thereIs none K = False := by simp [thereIs]
theorem thereIs_ite {c : Prop} [Decidable c] {x y : Option Eff} {K : Eff → Prop} : thereIs (if c then x else y) K = if c then thereIs x K else thereIs y K := by split <;> rfl

theorem drop_ints {l : List Int} {k : Nat} (h : k < l.length) : (l.map (C.int .i64)).drop k = .int .i64 l[k] :: (l.drop (k + 1)).map (.int .i64) := by
  rw [← List.map_drop, List.drop_eq_getElem_cons h, List.map_cons]

theorem take_mem {l : List Int} {k : Nat} {n : Int} (h : k < l.length) (hn : n ∉ l.take k) (hk : l[k] ≠ n) : n ∉ l.take (k + 1) := by
  rw [List.take_succ_eq_append_getElem h]
  simp only [List.mem_append, List.mem_singleton, not_or]
  exact ⟨hn, fun e => hk e.symm⟩
end Go.Proofs.YthcnpnogfblkcaaGreat.Abs

/- Trees of the program's types, how loops that count are shown, small lemmas. -/
namespace Go.Proofs.YthcnpnogfblkcaaGreat.Abs
open Go.RowKit
set_option linter.unusedVariables false
set_option linter.unusedSimpArgs false

def nth (l : List Int) (k : Nat) : Int := l.getD k 0

structure Ed where
  t : Int
  f : Int
  g : Int
deriving DecidableEq

def eth (l : List Ed) (k : Nat) : Ed := l.getD k ⟨0, 0, 0⟩
def edC (e : Ed) : List C := [.int .i64 e.t, .int .i64 e.f, .int .i64 e.g]
def edL (l : List Ed) : List C := l.flatMap edC
def edgs (l : List Ed) : C := .sl l.length (edL l)
def pth (l : List (Int × Int)) (k : Nat) : Int × Int := l.getD k (0, 0)
def prC (e : Int × Int) : List C := [.int .i64 e.1, .int .i64 e.2]
def prL (l : List (Int × Int)) : List C := l.flatMap prC
def prs (l : List (Int × Int)) : C := .sl l.length (prL l)

/-- A graph. -/
structure Gr where
  nodes : List Int
  edges : List Ed
/-- Two lists of numbers: a part, or a morphism. -/
structure Pa where
  nodes : List Int
  edges : List Int

def Gr.v (g : Gr) : TV := (true, [ints g.nodes, edgs g.edges])
def Pa.v (p : Pa) : TV := (true, [ints p.nodes, ints p.edges])

/-- As an object's cells. -/
def bx (t : TypeId) (cs : List V1) : Ob := ⟨true, false, false, 0, 0, t, cs⟩

theorem nth_eq {l : List Int} {k : Nat} (h : k < l.length) : nth l k = l[k] := by simp [nth, h]
theorem nth_mem {l : List Int} {k : Nat} (h : k < l.length) : nth l k ∈ l := by rw [nth_eq h]; exact List.getElem_mem h
theorem eth_mem {l : List Ed} {k : Nat} (h : k < l.length) : eth l k ∈ l := by simp [eth, h]
theorem mem_nth {l : List Int} {n : Int} (h : n ∈ l) : ∃ k, k < l.length ∧ nth l k = n := by
  obtain ⟨k, hk, rfl⟩ := List.mem_iff_getElem.1 h
  exact ⟨k, hk, nth_eq hk⟩
theorem mem_eth {l : List Ed} {n : Ed} (h : n ∈ l) : ∃ k, k < l.length ∧ eth l k = n := by
  obtain ⟨k, hk, rfl⟩ := List.mem_iff_getElem.1 h
  exact ⟨k, hk, by simp [eth, hk]⟩

theorem drop_nth {l : List Int} {k : Nat} (h : k < l.length) : (l.map (C.int .i64)).drop k = .int .i64 (nth l k) :: (l.drop (k + 1)).map (.int .i64) := by
  rw [nth_eq h]; exact drop_ints h

theorem len_edC : ∀ (l : List Ed), (l.flatMap edC).length = l.length * 3
  | [] => rfl
  | e :: r => by simp only [List.flatMap_cons, List.length_append, len_edC r, List.length_cons]; simp [edC]; omega

theorem drop_eth : ∀ {l : List Ed} {k : Nat}, k < l.length → (l.flatMap edC).drop (k * 3) = .int .i64 (eth l k).t :: .int .i64 (eth l k).f :: .int .i64 (eth l k).g :: (l.drop (k + 1)).flatMap edC
  | [], k, h => absurd h (by simp)
  | e :: r, 0, h => by simp [edC, eth]
  | e :: r, k + 1, h => by
    have ih := drop_eth (l := r) (k := k) (by simpa using h)
    have e1 : (k + 1) * 3 = k * 3 + 3 := by omega
    rw [e1, List.flatMap_cons]
    rw [show (edC e ++ List.flatMap edC r).drop (k * 3 + 3) = ((edC e ++ List.flatMap edC r).drop 3).drop (k * 3) by rw [List.drop_drop, Nat.add_comm]]
    simpa [edC, eth] using ih

theorem len_prC : ∀ (l : List (Int × Int)), (l.flatMap prC).length = l.length * 2
  | [] => rfl
  | e :: r => by simp only [List.flatMap_cons, List.length_append, len_prC r, List.length_cons]; simp [prC]; omega

theorem drop_pth : ∀ {l : List (Int × Int)} {k : Nat}, k < l.length → (l.flatMap prC).drop (k * 2) = .int .i64 (pth l k).1 :: .int .i64 (pth l k).2 :: (l.drop (k + 1)).flatMap prC
  | [], k, h => absurd h (by simp)
  | e :: r, 0, h => by simp [prC, pth]
  | e :: r, k + 1, h => by
    have ih := drop_pth (l := r) (k := k) (by simpa using h)
    have e1 : (k + 1) * 2 = k * 2 + 2 := by omega
    rw [e1, List.flatMap_cons]
    rw [show (prC e ++ List.flatMap prC r).drop (k * 2 + 2) = ((prC e ++ List.flatMap prC r).drop 2).drop (k * 2) by rw [List.drop_drop, Nat.add_comm]]
    simpa [prC, pth] using ih

theorem len_edL (l : List Ed) : (edL l).length = l.length * 3 := len_edC l
theorem drop_edL {l : List Ed} {k : Nat} (h : k < l.length) : (edL l).drop (k * 3) = .int .i64 (eth l k).t :: .int .i64 (eth l k).f :: .int .i64 (eth l k).g :: edL (l.drop (k + 1)) := drop_eth h
theorem len_prL (l : List (Int × Int)) : (prL l).length = l.length * 2 := len_prC l
theorem drop_prL {l : List (Int × Int)} {k : Nat} (h : k < l.length) : (prL l).drop (k * 2) = .int .i64 (pth l k).1 :: .int .i64 (pth l k).2 :: prL (l.drop (k + 1)) := drop_pth h

section mono
variable {P : Program}
theorem CallS.mono {f : FuncId} {args : List AV} {ob : Nm → Option Ob} {cnt : Nat → Nat} {R R' : AV → (Nm → Option Ob) → (Nat → Nat) → Prop} (h : CallS P f args ob cnt R) (hR : ∀ r ob cnt, R r ob cnt → R' r ob cnt) : CallS P f args ob cnt R' := by
  refine ⟨h.1, fun w0 Zc m w cargs h1 h2 h3 => (h.2 w0 Zc m w cargs h1 h2 h3).mono ?_⟩
  rintro e w' ⟨v, r, ob', cnt', m', he, hr, g⟩
  exact ⟨v, r, ob', cnt', m', he, hR _ _ _ hr, g⟩

theorem thereIs_mono {x : Option Eff} {K K' : Eff → Prop} (h : thereIs x K) (hK : ∀ E, K E → K' E) : thereIs x K' := by
  obtain ⟨E, h1, h2⟩ := h
  exact ⟨E, h1, hK E h2⟩

theorem awpOp_mono {o : MOp} {S : St} {K K' : AV → (Nm → Option Ob) → (Nat → Nat) → Prop} (h : awpOp P o S K) (hK : ∀ r ob cnt, K r ob cnt → K' r ob cnt) : awpOp P o S K' := by
  cases o with
  | call f nm args =>
    obtain ⟨g, caps, h1, h2⟩ := h
    exact ⟨g, caps, h1, h2.mono hK⟩
  | isnil neg x =>
    simp only [awpOp] at h ⊢
    split at h
    · exact fun b => hK _ _ _ (h b)
    · exact hK _ _ _ h
    · exact fun b hb => hK _ _ _ (h b hb)
    · exact h.elim
  | _ => exact thereIs_mono h fun E hE => hK _ _ _ hE

theorem awpOps_mono : ∀ {ops : List MOper} {S : St} {Q Q' : St → Prop}, awpOps P ops S Q → (∀ S, Q S → Q' S) → awpOps P ops S Q'
  | [], S, Q, Q', h, hQ => hQ S h
  | o :: r, S, Q, Q', h, hQ => by
    unfold awpOps at h ⊢
    split at h
    · exact awpOp_mono h fun _ _ _ h => awpOps_mono h hQ
    · obtain ⟨b', h1, h2, h3⟩ := h
      exact ⟨b', h1, fun e => awpOp_mono (h2 e) fun _ _ _ h => awpOps_mono h hQ, fun e => awpOps_mono (h3 e) hQ⟩

theorem dAwpOp_mono {o : MOp} {S : St} {K K' : Eff → Prop} (h : dAwpOp P S o K) (hK : ∀ E, K E → K' E) : dAwpOp P S o K' := by
  cases o with
  | call f nm args =>
    rcases h with ⟨g, targs, h1, h2, ⟨r, h3, h4, h5⟩ | ⟨typ, esz, n, cs, h3, h5⟩⟩ | ⟨g, ups, new, v, h1, h2, h3, h5⟩
    · exact .inl ⟨g, targs, h1, h2, .inl ⟨r, h3, h4, hK _ h5⟩⟩
    · exact .inl ⟨g, targs, h1, h2, .inr ⟨typ, esz, n, cs, h3, hK _ h5⟩⟩
    · exact .inr ⟨g, ups, new, v, h1, h2, h3, hK _ h5⟩
  | isnil => exact h.elim
  | mkfn => exact h.elim
  | _ => exact thereIs_mono h hK

theorem drawOps_mono : ∀ {ops : List MOper} {S : St} {L : Log} {Q Q' : St → Log → Prop}, drawOps P ops S L Q → (∀ S L, Q S L → Q' S L) → drawOps P ops S L Q'
  | [], S, L, Q, Q', h, hQ => hQ S L h
  | o :: r, S, L, Q, Q', h, hQ => by
    unfold drawOps at h ⊢
    split at h
    · exact dAwpOp_mono h fun _ h => drawOps_mono h hQ
    · obtain ⟨b', h1, h2, h3⟩ := h
      exact ⟨b', h1, fun e => dAwpOp_mono (h2 e) fun _ h => drawOps_mono h hQ, fun e => drawOps_mono (h3 e) hQ⟩

theorem awp_mono : ∀ {c : MCode} {S : St} {Q Q' : X → St → Prop}, awp P (DR P) c Q S → (∀ x S, Q x S → Q' x S) → awp P (DR P) c Q' S := by
  intro c
  induction c with
  | skip => exact fun h hQ => hQ _ _ h
  | region ops => exact fun h hQ => awpOps_mono h fun S h => hQ _ _ h
  | draw deps ops => exact fun h hQ => drawOps_mono h fun S L h => ⟨h.1, hQ _ _ h.2⟩
  | seq a b iha ihb =>
    intro S Q Q' h hQ
    refine iha h fun x S' hx => ?_
    cases x with
    | normal => exact ihb hx hQ
    | exit i => exact hQ _ _ hx
    | ret => exact hQ _ _ hx
  | cond c a b iha ihb =>
    intro S Q Q' h hQ
    obtain ⟨t, h1, h2, h3⟩ := h
    exact ⟨t, h1, fun e => iha (h2 e) hQ, fun e => ihb (h3 e) hQ⟩
  | block id b ih =>
    intro S Q Q' h hQ
    refine ih h fun x S' hx => ?_
    cases x with
    | normal => exact hQ _ _ hx
    | exit i =>
      simp only at hx ⊢
      split at hx
      · rename_i e
        rw [if_pos e]
        exact hQ _ _ hx
      · rename_i e
        rw [if_neg e]
        exact hQ _ _ hx
    | ret => exact hQ _ _ hx
  | loop b ih =>
    intro S Q Q' h hQ
    obtain ⟨I, μ, h1, h2⟩ := h
    refine ⟨I, μ, h1, fun S hS => ih (h2 S hS) fun x S' hx => ?_⟩
    cases x with
    | normal => exact hx
    | exit i => exact hQ _ _ hx
    | ret => exact hQ _ _ hx
  | exit id => exact fun h hQ => hQ _ _ h
  | ret => exact fun h hQ => hQ _ _ h
end mono

/-- A loop that counts up to n in a variable. -/
theorem loop_count {P : Program} {b : MCode} {Q : X → St → Prop} {S : St} (c n : Nat) (J : Nat → St → Prop) (hn : n ≤ 9000000000000000000)
    (h0 : S.fr c = .one (.t (.int .i64 0)) ∧ J 0 S)
    (h1 : ∀ (k : Nat) (S : St), k < n → IntKind.i64.wrap ((k : Int) + 1) = ((k + 1 : Nat) : Int) → S.fr c = .one (.t (.int .i64 k)) → J k S → awp P (DR P) b (fun x S' => match x with | .normal => S'.fr c = .one (.t (.int .i64 ((k + 1 : Nat) : Int))) ∧ J (k + 1) S' | x => Q x S') S)
    (h2 : ∀ (S : St), S.fr c = .one (.t (.int .i64 n)) → J n S → awp P (DR P) b (fun x S' => match x with | .normal => False | x => Q x S') S) : loopP (awp P (DR P) b) Q S := by
  refine loop_intro (fun S => ∃ k : Nat, k ≤ n ∧ S.fr c = .one (.t (.int .i64 k)) ∧ J k S) (fun S => match S.fr c with | .one (.t (.int _ k)) => n - k.toNat | _ => 0) ⟨0, by omega, h0.1, h0.2⟩ ?_
  rintro S ⟨k, hk, hc, hj⟩
  by_cases hlt : k < n
  · refine awp_mono (h1 k S hlt (by rw [wrap64_id] <;> omega) hc hj) fun x S' hx => ?_
    cases x with
    | normal =>
      refine ⟨⟨k + 1, by omega, hx.1, hx.2⟩, ?_⟩
      simp only [hx.1, hc]
      omega
    | exit i => exact hx
    | ret => exact hx
  · have : k = n := by omega
    subst this
    refine awp_mono (h2 S hc hj) fun x S' hx => ?_
    cases x with
    | normal => exact hx.elim
    | exit i => exact hx
    | ret => exact hx
end Go.Proofs.YthcnpnogfblkcaaGreat.Abs
