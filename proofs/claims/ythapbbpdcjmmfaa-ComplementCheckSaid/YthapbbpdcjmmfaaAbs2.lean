/-
  The small code, how Go's operations come to it, and what one operation does to an abstract state. No condition beyond those that each statement names.
-/
import Derived.Test.YthapbbpdcjmmfaaAbs1
import Derived.Maps.AppendAt
namespace Go.Proofs.Ythapbbpdcjmmfaa.Abs
open Go.RowKit
set_option linter.unusedVariables false

inductive Arg where
  | tmp (t : Nat)
  | c (v : AV)

inductive MOp where
  | mv (x : Arg)
  | pick (c a b : Arg)
  | alloc (nm typ : Nat) (zero : List V1)
  | box (nm typ : Nat) (x : Arg)
  | build (zero : List V1) (parts : List (Nat × Nat × Arg))
  | mkrow (nm typ esz len : Nat) (zero : List V1) (parts : List (Nat × Nat × Arg))
  | load (agg : Bool) (sz : Nat) (a : Arg)
  | store (sz : Nat) (a x : Arg)
  | nilck (x : Arg)
  | bin (op : BinOp) (x y : Arg)
  | eqS (neg : Bool) (n : Nat) (x y : Arg)
  | not (x : Arg)
  | conv (k : IntKind) (x : Arg)
  | mkfn (f : FuncId) (caps : List Arg)
  | make (nm typ esz bytes : Nat) (zero : List V1) (l c : Arg)
  | fieldA (off : Nat) (x : Arg)
  | idxA (esz : Nat) (x i : Arg)
  | idxArr (len esz : Nat) (x i : Arg)
  | extract (x : Arg) (i : Nat)
  | len (x : Arg)
  | append (nm typ esz bytes : Nat) (x y : Arg)
  | minmax (isMax : Bool) (x y : Arg)
  | isnil (neg : Bool) (x : Arg)
  | call (f : Arg) (nm : Nat) (args : List Arg)

/-- A value that is written in the code. -/
def v1Of : Value → Option V1
  | .int k n => some (.t (.int k n))
  | .bool b => some (.t (.bool b))
  | .slice none 0 0 => some .nil
  | _ => none

def v1s : List Value → Option (List V1)
  | [] => some []
  | v :: r => (v1Of v).bind fun x => (v1s r).map (x :: ·)

def cVal : Value → Option AV
  | .agg cs => (v1s cs.toList).map .agg
  | v => (v1Of v).map .one

def cArg : Operand → Option Arg
  | .tmp t => some (.tmp t)
  | .const v => (cVal v).map .c
  | .func f => some (.c (.one (.fn f [])))
  | _ => none

def cArgs : List Operand → Option (List Arg)
  | [] => some []
  | x :: r => (cArg x).bind fun y => (cArgs r).map (y :: ·)

section compile
variable (P : Program)

def zeroOf (t : TypeId) : Option (List V1) := (P.info? t).bind fun i => i.zero.bind fun z => v1s z.cells.toList

def aggB (t : TypeId) : Option Bool := match P.underlying t with
  | some (.struct _) | some (.array _ _) => some true
  | some _ => some false
  | none => none

def sizeB (t : TypeId) : Option Nat := (P.info? t).map (·.size)

def cParts (place : Nat → Option (Nat × Nat)) : List (Nat × Operand) → Option (List (Nat × Nat × Arg))
  | [] => some []
  | (i, x) :: r => (place i).bind fun p => (cArg x).bind fun y => (cParts place r).map ((p.1, p.2, y) :: ·)
end compile

/-! ### Evaluation -/
def Arg.ev (S : St) : Arg → AV
  | .tmp t => S.fr t
  | .c v => v

def AV.cells : AV → Option (List V1)
  | .one v => some [v]
  | .agg vs => some vs
  | _ => none

def upd {α β : Type} [DecidableEq α] (f : α → β) (a : α) (b : β) : α → β := fun x => if x = a then b else f x

theorem upd_same {α β : Type} [DecidableEq α] (f : α → β) (a : α) (b : β) : upd f a b a = b := by simp [upd]
theorem upd_ne {α β : Type} [DecidableEq α] (f : α → β) {a x : α} (b : β) (h : x ≠ a) : upd f a b x = f x := by simp [upd, h]

/-- What an operation does: its value, and the objects and counts behind it. -/
structure Eff where
  v : AV
  ob : Nm → Option Ob
  cnt : Nat → Nat

def St.val (S : St) (v : AV) : Eff := ⟨v, S.ob, S.cnt⟩

/-- A new object. -/
def St.new (S : St) (nm : Nat) (x : Ob) (v : AV) : Eff := ⟨v, upd S.ob (nm, S.cnt nm) (some x), upd S.cnt nm (S.cnt nm + 1)⟩

/-- As cells of a row: trees alone. -/
def V1.tree : V1 → Option C
  | .t x => some x
  | .nil => some (.sl 0 [])
  | _ => none

def trees : List V1 → Option (List V1)
  | [] => some []
  | v :: r => v.tree.bind fun x => (trees r).map (.t x :: ·)

def splice {α : Type} (l : List α) (off : Nat) (s : List α) : List α := l.take off ++ s ++ l.drop (off + s.length)

def fillV (S : St) : List (Nat × Nat × Arg) → List V1 → Option (List V1)
  | [], l => some l
  | (off, sz, x) :: r, l => match (x.ev S).cells with
    | some vs => if vs.length = sz ∧ off + sz ≤ l.length then fillV S r (splice l off vs) else none
    | none => none

/-- The object behind a pointer or a row, while it lives. -/
def St.live (S : St) (o : Nm) : Option Ob := match S.ob o with
  | some x => if x.live = true then some x else none
  | none => none

def rdAt (S : St) (sz : Nat) : AV → Option (List V1)
  | .one (.ptr o off) => match S.live o with
    | some x => if off + sz ≤ x.cells.length then some ((x.cells.drop off).take sz) else none
    | none => none
  | .one (.pro cs) => if sz ≤ cs.length then some ((cs.take sz).map .t) else none
  | _ => none

def binInt (op : BinOp) (k : IntKind) (a b : Int) : Option V1 := match op with
  | .add => some (.t (.int k (k.wrap (a + b))))
  | .sub => some (.t (.int k (k.wrap (a - b))))
  | .mul => some (.t (.int k (k.wrap (a * b))))
  | .eql => some (.t (.bool (a == b)))
  | .neq => some (.t (.bool (a != b)))
  | .lss => some (.t (.bool (decide (a < b))))
  | .leq => some (.t (.bool (decide (a ≤ b))))
  | .gtr => some (.t (.bool (decide (a > b))))
  | .geq => some (.t (.bool (decide (a ≥ b))))
  | .rem => if b = 0 then none else some (.t (.int k (a.tmod b)))
  | .quo => if b = 0 then none else some (.t (.int k (k.wrap (a.tdiv b))))
  | .and => some (.t (.int k (k.wrap (BitVec.ofInt k.bits a &&& BitVec.ofInt k.bits b).toNat)))
  | _ => none

/-- A shift's count may be of another kind. -/
def binInt2 (op : BinOp) (k : IntKind) (a : Int) (k' : IntKind) (b : Int) : Option V1 := match op with
  | .shr => if b < 0 then none else some (.t (.int k (a.fdiv (2 ^ min b.toNat k.bits))))
  | .shl => if b < 0 then none else some (.t (.int k (k.wrap (a * 2 ^ min b.toNat k.bits))))
  | op => if k = k' then binInt op k a b else none

/-- The cells that a slice leads to, and how many elements it has. -/
def sliceOf (S : St) : AV → Option (Nat × List V1)
  | .one (.t (.sl n cs)) => some (n, cs.map .t)
  | .one .nil => some (0, [])
  | .one (.row o) => match S.live o with
    | some x => if x.isRow = true then some (x.n, x.cells) else none
    | none => none
  | _ => none

def intsOf : List V1 → Option (List (IntKind × Int))
  | [] => some []
  | .t (.int k n) :: r => (intsOf r).map ((k, n) :: ·)
  | _ => none

def evOp (S : St) : MOp → Option Eff
  | .mv x => some (S.val (x.ev S))
  | .pick c a b => match c.ev S with
    | .one (.t (.bool t)) => some (S.val (if t then a.ev S else b.ev S))
    | _ => none
  | .alloc nm typ zero => some (S.new nm ⟨true, false, false, 0, 0, typ, zero⟩ (.one (.ptr (nm, S.cnt nm) 0)))
  | .box nm typ x => match (x.ev S).cells with
    | some vs => some (S.new nm ⟨true, false, false, 0, 0, typ, vs⟩ (.one (.ptr (nm, S.cnt nm) 0)))
    | none => none
  | .build zero parts => match fillV S parts zero with
    | some vs => some (S.val (.agg vs))
    | none => none
  | .mkrow nm typ esz len zero parts => match fillV S parts zero with
    | some vs => match trees vs with
      | some ts => if len = 0 then some (S.val (.one .nil)) else some (S.new nm ⟨true, true, false, esz, len, typ, ts⟩ (.one (.row (nm, S.cnt nm))))
      | none => none
    | none => none
  | .load agg sz a => match rdAt S sz (a.ev S) with
    | some vs => if agg then some (S.val (.agg vs)) else match vs with
      | [v] => some (S.val (.one v))
      | _ => none
    | none => none
  | .store sz a x => match a.ev S, (x.ev S).cells with
    | .one (.ptr o off), some vs => match S.live o with
      | some y => if y.frz = false ∧ vs.length = sz ∧ off + sz ≤ y.cells.length then
          (if y.isRow then match trees vs with
            | some ts => some ⟨.undef, upd S.ob o (some { y with cells := splice y.cells off ts }), S.cnt⟩
            | none => none
          else some ⟨.undef, upd S.ob o (some { y with cells := splice y.cells off vs }), S.cnt⟩)
        else none
      | none => none
    | _, _ => none
  | .nilck x => match x.ev S with
    | .one (.ptr o off) => some (S.val (.one (.ptr o off)))
    | .one (.pro cs) => some (S.val (.one (.pro cs)))
    | .one (.fn f caps) => some (S.val (.one (.fn f caps)))
    | _ => none
  | .bin op x y => match x.ev S, y.ev S with
    | .one (.t (.int k a)), .one (.t (.int k' b)) => match binInt2 op k a k' b with
      | some v => some (S.val (.one v))
      | none => none
    | _, _ => none
  | .eqS neg n x y => match x.ev S, y.ev S with
    | .agg xs, .agg ys => match intsOf xs, intsOf ys with
      | some p, some q => if p.length = n ∧ p.map (·.1) = q.map (·.1) ∧ n ≠ 0 then some (S.val (.one (.t (.bool (if neg then !decide (p.map (·.2) = q.map (·.2)) else decide (p.map (·.2) = q.map (·.2))))))) else none
      | _, _ => none
    | .one (.t (.bool a)), .one (.t (.bool b)) => if n = 0 then some (S.val (.one (.t (.bool (if neg then !(a == b) else a == b))))) else none
    | _, _ => none
  | .not x => match x.ev S with
    | .one (.t (.bool b)) => some (S.val (.one (.t (.bool (!b)))))
    | _ => none
  | .conv k x => match x.ev S with
    | .one (.t (.int _ n)) => some (S.val (.one (.t (.int k (k.wrap n)))))
    | _ => none
  | .fieldA off x => match x.ev S with
    | .one (.ptr o p) => some (S.val (.one (.ptr o (p + off))))
    | .one (.pro cs) => some (S.val (.one (.pro (cs.drop off))))
    | _ => none
  | .idxA esz x i => match i.ev S with
    | .one (.t (.int _ j)) => match x.ev S with
      | .one (.t (.sl n cs)) => if 0 ≤ j ∧ j < n ∧ j.toNat * esz < cs.length then some (S.val (.one (.pro (cs.drop (j.toNat * esz))))) else none
      | .one (.row o) => match S.live o with
        | some y => if 0 ≤ j ∧ j < y.n then some (S.val (.one (.ptr o (j.toNat * esz)))) else none
        | none => none
      | _ => none
    | _ => none
  | .idxArr len esz x i => match i.ev S with
    | .one (.t (.int _ j)) => if 0 ≤ j ∧ j < len then match x.ev S with
        | .one (.ptr o p) => some (S.val (.one (.ptr o (p + j.toNat * esz))))
        | .one (.pro cs) => some (S.val (.one (.pro (cs.drop (j.toNat * esz)))))
        | _ => none
      else none
    | _ => none
  | .extract x i => match x.ev S with
    | .tup ss => match ss[i]? with
      | some (true, vs) => some (S.val (.agg vs))
      | some (false, [v]) => some (S.val (.one v))
      | _ => none
    | _ => none
  | .len x => match sliceOf S (x.ev S) with
    | some (n, _) => some (S.val (.one (.t (.int .i64 n))))
    | none => none
  | .minmax isMax x y => match x.ev S, y.ev S with
    | .one (.t (.int k a)), .one (.t (.int k' b)) => if k = k' then some (S.val (.one (.t (.int k (if isMax then max a b else min a b))))) else none
    | _, _ => none
  | .mkfn f caps => match caps.mapM (fun c => match c.ev S with | .one (.ptr o 0) => some o | _ => none) with
    | some l => some (S.val (.one (.fn f l)))
    | none => none
  | .make nm typ esz bytes zero l c => match l.ev S, c.ev S with
    | .one (.t (.int _ a)), .one (.t (.int _ b)) =>
      if a = b ∧ 0 ≤ a ∧ a.toNat * bytes ≤ 140737488355328 ∧ a ≤ 9223372036854775807 then
        some (S.new nm ⟨true, true, false, esz, a.toNat, typ, (List.replicate a.toNat zero).flatten⟩ (.one (.row (nm, S.cnt nm))))
      else none
    | _, _ => none
  | .append nm typ esz bytes x y => match sliceOf S (y.ev S) with
    | some (k, news) => match trees news with
      | some ts => match x.ev S with
        | .one .nil => if k * bytes ≤ 140737488355328 ∧ ts.length = k * esz ∧ k ≤ 9223372036854775807 then
            (if k = 0 then some (S.val (.one .nil)) else some (S.new nm ⟨true, true, false, esz, k, typ, ts⟩ (.one (.row (nm, S.cnt nm)))))
          else none
        | .one (.row o) => match S.live o with
          | some b => if b.isRow = true ∧ b.frz = false ∧ b.esz = esz ∧ b.typ = typ ∧ (b.n + k) * bytes ≤ 140737488355328 ∧ ts.length = k * esz ∧ b.n + k ≤ 9223372036854775807 then
              some ⟨.one (.row (nm, S.cnt nm)), upd (upd S.ob o (some { b with live := false })) (nm, S.cnt nm) (some ⟨true, true, false, esz, b.n + k, typ, b.cells ++ ts⟩), upd S.cnt nm (S.cnt nm + 1)⟩
            else none
          | none => none
        | _ => none
      | none => none
    | none => none
  | .isnil .. => none
  | .call .. => none
end Go.Proofs.Ythapbbpdcjmmfaa.Abs
