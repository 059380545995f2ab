/-
  Joined texts: steps of this claim, part 2. No condition beyond those that each statement names.
-/
import Derived.Test.YthapbbpdcjmmfaaK1
import Derived.Test.YthapbbpdcjmmfaaProg
import Derived.Sort.OwnSortedInts
import Derived.Lib.SlicesCompact
import Derived.Shelf.Sort.Plain
import Derived.Shelf.Slices.CompactI
import Derived.Shelf.Slices.In.SortNone
import Derived.Ground.Names2Prog
/- The small code's rules with their continuations as words, so that a proof steps through them one by one. -/
namespace Go.Proofs.Ythapbbpdcjmmfaa.Abs
open Go.RowKit
set_option linter.unusedVariables false
set_option linter.unusedSimpArgs false

/-- A weakest precondition over the program, its open regions too. -/
def W (P : Program) (c : MCode) (Q : X → St → Prop) (S : St) : Prop := awp P (DR P) c Q S
def kSeq (P : Program) (b : MCode) (Q : X → St → Prop) : X → St → Prop := fun x S => match x with
  | .normal => W P b Q S
  | x => Q x S
def kBlk (id : Nat) (Q : X → St → Prop) : X → St → Prop := fun x S => match x with
  | .exit i => if i = id then Q .normal S else Q (.exit i) S
  | x => Q x S
def kCond (P : Program) (v : AV) (a b : MCode) (Q : X → St → Prop) (S : St) : Prop := ∃ t, v = .one (.t (.bool t)) ∧ (t = true → W P a Q S) ∧ (t = false → W P b Q S)
def loopW (P : Program) (b : MCode) (Q : X → St → Prop) (S : St) : Prop := loopP (awp P (DR P) b) Q S
def kOps (P : Program) (d : Option Nat) (r : List MOper) (S : St) (Q : St → Prop) : Eff → Prop := fun E => awpOps P r (S.set d E.v E.ob E.cnt) Q
def kRes (P : Program) (d : Option Nat) (r : List MOper) (S : St) (Q : St → Prop) : AV → (Nm → Option Ob) → (Nat → Nat) → Prop := fun v ob cnt => awpOps P r (S.set d v ob cnt) Q
def kGuard (P : Program) (v : AV) (b : Bool) (d : Option Nat) (op : MOp) (r : List MOper) (S : St) (Q : St → Prop) : Prop :=
  ∃ b', gval v = some b' ∧ (b' = some b → awpOps P (⟨d, op, none⟩ :: r) S Q) ∧ (b' ≠ some b → awpOps P r (S.set d .undef S.ob S.cnt) Q)
def kCall (P : Program) (f : AV) (args : List AV) (ob : Nm → Option Ob) (cnt : Nat → Nat) (K : AV → (Nm → Option Ob) → (Nat → Nat) → Prop) : Prop :=
  ∃ g caps, f = .one (.fn g caps) ∧ CallS P g (args ++ caps.map (fun n => .one (.ptr n 0))) ob cnt K
def kNil (neg : Bool) (x : AV) (S : St) (K : AV → (Nm → Option Ob) → (Nat → Nat) → Prop) : Prop := match x with
  | .one .nil => ∀ b : Bool, K (.one (.t (.bool b))) S.ob S.cnt
  | .one (.row _) => K (.one (.t (.bool neg))) S.ob S.cnt
  | .one (.t (.sl n cs)) => ∀ b : Bool, (b = true → cs = []) → K (.one (.t (.bool (if neg then !b else b)))) S.ob S.cnt
  | _ => False

section
variable {P : Program} {Q : X → St → Prop} {S : St}
theorem w_skip : W P .skip Q S = Q .normal S := Eq.trans rfl rfl
theorem w_region {ops : List MOper} : W P (.region ops) Q S = awpOps P ops S (Q .normal) := Eq.trans rfl rfl
theorem w_seq {a b : MCode} : W P (.seq a b) Q S = W P a (kSeq P b Q) S := Eq.trans rfl rfl
theorem w_cond {c : Arg} {a b : MCode} : W P (.cond c a b) Q S = kCond P (c.ev S) a b Q S := Eq.trans rfl rfl
theorem w_block {id : Nat} {b : MCode} : W P (.block id b) Q S = W P b (kBlk id Q) S := Eq.trans rfl rfl
theorem w_loop {b : MCode} : W P (.loop b) Q S = loopW P b Q S := Eq.trans rfl rfl
theorem w_exit {id : Nat} : W P (.exit id) Q S = Q (.exit id) S := Eq.trans rfl rfl
theorem w_ret : W P .ret Q S = Q .ret S := Eq.trans rfl rfl
theorem kSeq_n {b : MCode} : kSeq P b Q .normal S = W P b Q S := Eq.trans rfl rfl
theorem kSeq_e {b : MCode} {i : Nat} : kSeq P b Q (.exit i) S = Q (.exit i) S := Eq.trans rfl rfl
theorem kSeq_r {b : MCode} : kSeq P b Q .ret S = Q .ret S := Eq.trans rfl rfl
theorem kBlk_n {id : Nat} : kBlk id Q .normal S = Q .normal S := Eq.trans rfl rfl
theorem kBlk_e {id i : Nat} : kBlk id Q (.exit i) S = if i = id then Q .normal S else Q (.exit i) S := Eq.trans rfl rfl
theorem kBlk_r {id : Nat} : kBlk id Q .ret S = Q .ret S := Eq.trans rfl rfl
theorem kCond_t {a b : MCode} : kCond P (.one (.t (.bool true))) a b Q S = W P a Q S := by simp [kCond]
theorem kCond_f {a b : MCode} : kCond P (.one (.t (.bool false))) a b Q S = W P b Q S := by simp [kCond]
theorem kCond_d {p : Prop} [Decidable p] {a b : MCode} : kCond P (.one (.t (.bool (decide p)))) a b Q S = ((p → W P a Q S) ∧ (¬p → W P b Q S)) := by simp [kCond]
theorem kCond_g {t : Bool} {a b : MCode} : kCond P (.one (.t (.bool t))) a b Q S = ((t = true → W P a Q S) ∧ (t = false → W P b Q S)) := by simp [kCond]
theorem kCond_n {p : Prop} [Decidable p] {a b : MCode} : kCond P (.one (.t (.bool (!decide p)))) a b Q S = ((¬p → W P a Q S) ∧ (p → W P b Q S)) := by by_cases h : p <;> simp [kCond, h]
end

section
variable {P : Program} {Q : St → Prop} {S : St} {d : Option Nat} {r : List MOper}
theorem o_nil : awpOps P [] S Q = Q S := Eq.trans rfl rfl
theorem o_mv {x : Arg} : awpOps P (⟨d, .mv x, none⟩ :: r) S Q = awpOps P r (S.set d (x.ev S) S.ob S.cnt) Q := by simp [awpOps, awpOp, evOp, thereIs, St.val]
theorem o_pick {c a b : Arg} : awpOps P (⟨d, .pick c a b, none⟩ :: r) S Q = thereIs (evOp S (.pick c a b)) (kOps P d r S Q) := Eq.trans rfl rfl
theorem o_alloc {nm t : Nat} {z : List V1} : awpOps P (⟨d, .alloc nm t z, none⟩ :: r) S Q = thereIs (evOp S (.alloc nm t z)) (kOps P d r S Q) := Eq.trans rfl rfl
theorem o_box {nm t : Nat} {x : Arg} : awpOps P (⟨d, .box nm t x, none⟩ :: r) S Q = thereIs (evOp S (.box nm t x)) (kOps P d r S Q) := Eq.trans rfl rfl
theorem o_build {z : List V1} {p : List (Nat × Nat × Arg)} : awpOps P (⟨d, .build z p, none⟩ :: r) S Q = thereIs (evOp S (.build z p)) (kOps P d r S Q) := Eq.trans rfl rfl
theorem o_mkrow {nm t e l : Nat} {z : List V1} {p : List (Nat × Nat × Arg)} : awpOps P (⟨d, .mkrow nm t e l z p, none⟩ :: r) S Q = thereIs (evOp S (.mkrow nm t e l z p)) (kOps P d r S Q) := Eq.trans rfl rfl
theorem o_load {g : Bool} {s : Nat} {a : Arg} : awpOps P (⟨d, .load g s a, none⟩ :: r) S Q = thereIs (evOp S (.load g s a)) (kOps P d r S Q) := Eq.trans rfl rfl
theorem o_store {s : Nat} {a x : Arg} : awpOps P (⟨d, .store s a x, none⟩ :: r) S Q = thereIs (evOp S (.store s a x)) (kOps P d r S Q) := Eq.trans rfl rfl
theorem o_nilck {x : Arg} : awpOps P (⟨d, .nilck x, none⟩ :: r) S Q = thereIs (evOp S (.nilck x)) (kOps P d r S Q) := Eq.trans rfl rfl
theorem o_bin {o : BinOp} {x y : Arg} : awpOps P (⟨d, .bin o x y, none⟩ :: r) S Q = thereIs (evOp S (.bin o x y)) (kOps P d r S Q) := Eq.trans rfl rfl
theorem o_eqS {g : Bool} {n : Nat} {x y : Arg} : awpOps P (⟨d, .eqS g n x y, none⟩ :: r) S Q = thereIs (evOp S (.eqS g n x y)) (kOps P d r S Q) := Eq.trans rfl rfl
theorem o_not {x : Arg} : awpOps P (⟨d, .not x, none⟩ :: r) S Q = thereIs (evOp S (.not x)) (kOps P d r S Q) := Eq.trans rfl rfl
theorem o_conv {k : IntKind} {x : Arg} : awpOps P (⟨d, .conv k x, none⟩ :: r) S Q = thereIs (evOp S (.conv k x)) (kOps P d r S Q) := Eq.trans rfl rfl
theorem o_mkfn {f : FuncId} {c : List Arg} : awpOps P (⟨d, .mkfn f c, none⟩ :: r) S Q = thereIs (evOp S (.mkfn f c)) (kOps P d r S Q) := Eq.trans rfl rfl
theorem o_make {nm t e b : Nat} {z : List V1} {l c : Arg} : awpOps P (⟨d, .make nm t e b z l c, none⟩ :: r) S Q = thereIs (evOp S (.make nm t e b z l c)) (kOps P d r S Q) := Eq.trans rfl rfl
theorem o_fieldA {o : Nat} {x : Arg} : awpOps P (⟨d, .fieldA o x, none⟩ :: r) S Q = thereIs (evOp S (.fieldA o x)) (kOps P d r S Q) := Eq.trans rfl rfl
theorem o_idxA {e : Nat} {x i : Arg} : awpOps P (⟨d, .idxA e x i, none⟩ :: r) S Q = thereIs (evOp S (.idxA e x i)) (kOps P d r S Q) := Eq.trans rfl rfl
theorem o_idxArr {l e : Nat} {x i : Arg} : awpOps P (⟨d, .idxArr l e x i, none⟩ :: r) S Q = thereIs (evOp S (.idxArr l e x i)) (kOps P d r S Q) := Eq.trans rfl rfl
theorem o_extract {x : Arg} {i : Nat} : awpOps P (⟨d, .extract x i, none⟩ :: r) S Q = thereIs (evOp S (.extract x i)) (kOps P d r S Q) := Eq.trans rfl rfl
theorem o_len {x : Arg} : awpOps P (⟨d, .len x, none⟩ :: r) S Q = thereIs (evOp S (.len x)) (kOps P d r S Q) := Eq.trans rfl rfl
theorem o_append {nm t e b : Nat} {x y : Arg} : awpOps P (⟨d, .append nm t e b x y, none⟩ :: r) S Q = thereIs (evOp S (.append nm t e b x y)) (kOps P d r S Q) := Eq.trans rfl rfl
theorem o_minmax {g : Bool} {x y : Arg} : awpOps P (⟨d, .minmax g x y, none⟩ :: r) S Q = thereIs (evOp S (.minmax g x y)) (kOps P d r S Q) := Eq.trans rfl rfl
theorem o_isnil {g : Bool} {x : Arg} : awpOps P (⟨d, .isnil g x, none⟩ :: r) S Q = kNil g (x.ev S) S (kRes P d r S Q) := Eq.trans rfl rfl
theorem o_call {f : Arg} {nm : Nat} {args : List Arg} : awpOps P (⟨d, .call f nm args, none⟩ :: r) S Q = kCall P (f.ev S) (args.map (Arg.ev S)) S.ob S.cnt (kRes P d r S Q) := Eq.trans rfl rfl
theorem o_guard {op : MOp} {t : Nat} {b : Bool} : awpOps P (⟨d, op, some (t, b)⟩ :: r) S Q = kGuard P (S.fr t) b d op r S Q := Eq.trans rfl rfl
theorem kOps_app {E : Eff} : kOps P d r S Q E = awpOps P r (S.set d E.v E.ob E.cnt) Q := Eq.trans rfl rfl
theorem kRes_app {v : AV} {ob : Nm → Option Ob} {cnt : Nat → Nat} : kRes P d r S Q v ob cnt = awpOps P r (S.set d v ob cnt) Q := Eq.trans rfl rfl
theorem kGuard_tt {op : MOp} : kGuard P (.one (.t (.bool true))) true d op r S Q = awpOps P (⟨d, op, none⟩ :: r) S Q := by simp [kGuard, gval]
theorem kGuard_ff {op : MOp} : kGuard P (.one (.t (.bool false))) false d op r S Q = awpOps P (⟨d, op, none⟩ :: r) S Q := by simp [kGuard, gval]
theorem kGuard_tf {op : MOp} : kGuard P (.one (.t (.bool true))) false d op r S Q = awpOps P r (S.set d .undef S.ob S.cnt) Q := by simp [kGuard, gval]
theorem kGuard_ft {op : MOp} : kGuard P (.one (.t (.bool false))) true d op r S Q = awpOps P r (S.set d .undef S.ob S.cnt) Q := by simp [kGuard, gval]
theorem kGuard_u {op : MOp} {b : Bool} : kGuard P .undef b d op r S Q = awpOps P r (S.set d .undef S.ob S.cnt) Q := by simp [kGuard, gval]
theorem kCall_c {g : FuncId} {args : List AV} {ob : Nm → Option Ob} {cnt : Nat → Nat} {K : AV → (Nm → Option Ob) → (Nat → Nat) → Prop} : kCall P (.one (.fn g [])) args ob cnt K = CallS P g args ob cnt K := by
  refine propext ⟨?_, fun h => ⟨g, [], rfl, by simpa using h⟩⟩
  rintro ⟨g', caps, e, h⟩
  cases e
  simpa using h
theorem kCall_k {g : FuncId} {caps : List Nm} {args : List AV} {ob : Nm → Option Ob} {cnt : Nat → Nat} {K : AV → (Nm → Option Ob) → (Nat → Nat) → Prop} : kCall P (.one (.fn g caps)) args ob cnt K = CallS P g (args ++ caps.map (fun n => .one (.ptr n 0))) ob cnt K := by
  refine propext ⟨?_, fun h => ⟨g, caps, rfl, h⟩⟩
  rintro ⟨g', caps', e, h⟩
  cases e
  exact h
theorem kNil_r {g : Bool} {o : Nm} {K : AV → (Nm → Option Ob) → (Nat → Nat) → Prop} : kNil g (.one (.row o)) S K = K (.one (.t (.bool g))) S.ob S.cnt := Eq.trans rfl rfl
end

/-! ### Open regions -/
def chk (deps : List (List Nat)) (L : Log) : Bool := lowerAll 0 deps && indep (closAll [] deps) L
def dOps (P : Program) (d : Option Nat) (r : List MOper) (S : St) (L : Log) (R Wr : List SL) (Q : St → Log → Prop) : Eff → Prop := fun E => drawOps P r (S.set d E.v E.ob E.cnt) (L ++ [(R, dstL d ++ Wr)]) Q
def dDone (deps : List (List Nat)) (Q : X → St → Prop) : St → Log → Prop := fun S L => chk deps L = true ∧ Q .normal S
def dGuard (P : Program) (v : AV) (t : Nat) (b : Bool) (d : Option Nat) (op : MOp) (r : List MOper) (S : St) (L : Log) (Q : St → Log → Prop) : Prop :=
  ∃ b', gval v = some b' ∧ (b' = some b → dAwpOp P S op (dOps P d r S L ((0, t) :: opRd S op) (opWr S op) Q)) ∧ (b' ≠ some b → drawOps P r (S.set d .undef S.ob S.cnt) (L ++ [([(0, t)], dstL d)]) Q)
/-- A call in an open region. -/
def dCall (P : Program) (f : AV) (nm : Nat) (args : List AV) (S : St) (K : Eff → Prop) : Prop := (∃ g targs, f = .one (.fn g []) ∧ argTrees ⟨fun _ => .undef, S.ob, S.cnt⟩ args = some targs ∧
  ((∃ r, CallOK P g targs r ∧ (r.plain || args.all (AV.still ⟨fun _ => .undef, S.ob, S.cnt⟩)) = true ∧ K (S.val r.av)) ∨ ∃ typ esz n cs, CallRow P g targs typ esz n cs ∧ K (rowEff S nm typ esz n cs))) ∨
  ∃ g ups new v, f = .one (.fn g []) ∧ isMut f = true ∧ CallM P g nm args S.ob ups new v ∧ K (effM S nm ups new v)

section
variable {P : Program} {S : St}
theorem w_draw {deps : List (List Nat)} {ops : List MOper} {Q : X → St → Prop} : W P (.draw deps ops) Q S = drawOps P ops S [] (dDone deps Q) := Eq.trans rfl rfl
theorem dDone_app {deps : List (List Nat)} {Q : X → St → Prop} {L : Log} : dDone deps Q S L = (chk deps L = true ∧ Q .normal S) := Eq.trans rfl rfl
variable {Q : St → Log → Prop} {L : Log} {d : Option Nat} {r : List MOper}
theorem d_nil : drawOps P [] S L Q = Q S L := Eq.trans rfl rfl
theorem d_cons {op : MOp} : drawOps P (⟨d, op, none⟩ :: r) S L Q = dAwpOp P S op (dOps P d r S L (opRd S op) (opWr S op) Q) := Eq.trans rfl rfl
theorem d_guard {op : MOp} {t : Nat} {b : Bool} : drawOps P (⟨d, op, some (t, b)⟩ :: r) S L Q = dGuard P (S.fr t) t b d op r S L Q := Eq.trans rfl rfl
theorem dGuard_tt {op : MOp} {t : Nat} : dGuard P (.one (.t (.bool true))) t true d op r S L Q = dAwpOp P S op (dOps P d r S L ((0, t) :: opRd S op) (opWr S op) Q) := by simp [dGuard, gval]
theorem dGuard_ff {op : MOp} {t : Nat} : dGuard P (.one (.t (.bool false))) t false d op r S L Q = dAwpOp P S op (dOps P d r S L ((0, t) :: opRd S op) (opWr S op) Q) := by simp [dGuard, gval]
theorem dGuard_tf {op : MOp} {t : Nat} : dGuard P (.one (.t (.bool true))) t false d op r S L Q = drawOps P r (S.set d .undef S.ob S.cnt) (L ++ [([(0, t)], dstL d)]) Q := by simp [dGuard, gval]
theorem dGuard_ft {op : MOp} {t : Nat} : dGuard P (.one (.t (.bool false))) t true d op r S L Q = drawOps P r (S.set d .undef S.ob S.cnt) (L ++ [([(0, t)], dstL d)]) Q := by simp [dGuard, gval]
theorem dGuard_u {op : MOp} {t : Nat} {b : Bool} : dGuard P .undef t b d op r S L Q = drawOps P r (S.set d .undef S.ob S.cnt) (L ++ [([(0, t)], dstL d)]) Q := by simp [dGuard, gval]
theorem dOps_app {R Wr : List SL} {E : Eff} : dOps P d r S L R Wr Q E = drawOps P r (S.set d E.v E.ob E.cnt) (L ++ [(R, dstL d ++ Wr)]) Q := Eq.trans rfl rfl
variable {K : Eff → Prop}
theorem d_mv {x : Arg} : dAwpOp P S (.mv x) K = thereIs (evOp S (.mv x)) K := Eq.trans rfl rfl
theorem d_pick {c a b : Arg} : dAwpOp P S (.pick c a b) K = thereIs (evOp S (.pick c a b)) K := Eq.trans rfl rfl
theorem d_alloc {nm t : Nat} {z : List V1} : dAwpOp P S (.alloc nm t z) K = thereIs (evOp S (.alloc nm t z)) K := Eq.trans rfl rfl
theorem d_box {nm t : Nat} {x : Arg} : dAwpOp P S (.box nm t x) K = thereIs (evOp S (.box nm t x)) K := Eq.trans rfl rfl
theorem d_build {z : List V1} {p : List (Nat × Nat × Arg)} : dAwpOp P S (.build z p) K = thereIs (evOp S (.build z p)) K := Eq.trans rfl rfl
theorem d_mkrow {nm t e l : Nat} {z : List V1} {p : List (Nat × Nat × Arg)} : dAwpOp P S (.mkrow nm t e l z p) K = thereIs (evOp S (.mkrow nm t e l z p)) K := Eq.trans rfl rfl
theorem d_load {g : Bool} {s : Nat} {a : Arg} : dAwpOp P S (.load g s a) K = thereIs (evOp S (.load g s a)) K := Eq.trans rfl rfl
theorem d_store {s : Nat} {a x : Arg} : dAwpOp P S (.store s a x) K = thereIs (evOp S (.store s a x)) K := Eq.trans rfl rfl
theorem d_bin {o : BinOp} {x y : Arg} : dAwpOp P S (.bin o x y) K = thereIs (evOp S (.bin o x y)) K := Eq.trans rfl rfl
theorem d_eqS {g : Bool} {n : Nat} {x y : Arg} : dAwpOp P S (.eqS g n x y) K = thereIs (evOp S (.eqS g n x y)) K := Eq.trans rfl rfl
theorem d_not {x : Arg} : dAwpOp P S (.not x) K = thereIs (evOp S (.not x)) K := Eq.trans rfl rfl
theorem d_conv {k : IntKind} {x : Arg} : dAwpOp P S (.conv k x) K = thereIs (evOp S (.conv k x)) K := Eq.trans rfl rfl
theorem d_make {nm t e b : Nat} {z : List V1} {l c : Arg} : dAwpOp P S (.make nm t e b z l c) K = thereIs (evOp S (.make nm t e b z l c)) K := Eq.trans rfl rfl
theorem d_fieldA {o : Nat} {x : Arg} : dAwpOp P S (.fieldA o x) K = thereIs (evOp S (.fieldA o x)) K := Eq.trans rfl rfl
theorem d_idxA {e : Nat} {x i : Arg} : dAwpOp P S (.idxA e x i) K = thereIs (evOp S (.idxA e x i)) K := Eq.trans rfl rfl
theorem d_idxArr {l e : Nat} {x i : Arg} : dAwpOp P S (.idxArr l e x i) K = thereIs (evOp S (.idxArr l e x i)) K := Eq.trans rfl rfl
theorem d_extract {x : Arg} {i : Nat} : dAwpOp P S (.extract x i) K = thereIs (evOp S (.extract x i)) K := Eq.trans rfl rfl
theorem d_len {x : Arg} : dAwpOp P S (.len x) K = thereIs (evOp S (.len x)) K := Eq.trans rfl rfl
theorem d_append {nm t e b : Nat} {x y : Arg} : dAwpOp P S (.append nm t e b x y) K = thereIs (evOp S (.append nm t e b x y)) K := Eq.trans rfl rfl
theorem d_minmax {g : Bool} {x y : Arg} : dAwpOp P S (.minmax g x y) K = thereIs (evOp S (.minmax g x y)) K := Eq.trans rfl rfl
theorem d_call {f : Arg} {nm : Nat} {args : List Arg} : dAwpOp P S (.call f nm args) K = dCall P (f.ev S) nm (args.map (Arg.ev S)) S K := Eq.trans rfl rfl

theorem dCall_ok {g : FuncId} {nm : Nat} {args : List AV} {targs : List TV} {r : TR} (h : CallOK P g targs r) (ht : argTrees ⟨fun _ => .undef, S.ob, S.cnt⟩ args = some targs) (hs : (r.plain || args.all (AV.still ⟨fun _ => .undef, S.ob, S.cnt⟩)) = true) (hk : K (S.val r.av)) :
    dCall P (.one (.fn g [])) nm args S K := .inl ⟨g, targs, rfl, ht, .inl ⟨r, h, hs, hk⟩⟩
theorem dCall_row {g : FuncId} {nm : Nat} {args : List AV} {targs : List TV} {typ esz n : Nat} {cs : List C} (h : CallRow P g targs typ esz n cs) (ht : argTrees ⟨fun _ => .undef, S.ob, S.cnt⟩ args = some targs) (hk : K (rowEff S nm typ esz n cs)) :
    dCall P (.one (.fn g [])) nm args S K := .inl ⟨g, targs, rfl, ht, .inr ⟨typ, esz, n, cs, h, hk⟩⟩
theorem dCall_mut {g : FuncId} {nm : Nat} {args : List AV} {ups : List (Nm × Ob)} {new : Option Ob} {v : Nm → AV} (hm : decide (g = 58) = true) (h : CallM P g nm args S.ob ups new v) (hk : K (effM S nm ups new v)) :
    dCall P (.one (.fn g [])) nm args S K := .inr ⟨g, ups, new, v, rfl, by rw [isMut_fn]; exact hm, h, hk⟩
end

theorem upd_app {α β : Type} [DecidableEq α] (f : α → β) (a x : α) (b : β) : upd f a b x = if x = a then b else f x := Eq.trans rfl rfl

/-- A function's end: what comes back. -/
def kRet (rs : List MRes) (K : AV → (Nm → Option Ob) → (Nat → Nat) → Prop) : X → St → Prop := fun x S => match x with
  | .exit _ => False
  | _ => ∃ r, retOf S rs = some r ∧ K r S.ob S.cnt

section
variable {P : Program} {S : St} {rs : List MRes} {K : AV → (Nm → Option Ob) → (Nat → Nat) → Prop}
def kBack (x : Option AV) (S : St) (K : AV → (Nm → Option Ob) → (Nat → Nat) → Prop) : Prop := ∃ r, x = some r ∧ K r S.ob S.cnt
theorem kBack_some {r : AV} : kBack (some r) S K = K r S.ob S.cnt := by simp [kBack]
theorem kRet_r : kRet rs K .ret S = kBack (retOf S rs) S K := Eq.trans rfl rfl
theorem kRet_n : kRet rs K .normal S = kBack (retOf S rs) S K := Eq.trans rfl rfl

theorem callS_W (hm : P.follows .mixedOrders = true) {f : FuncId} {fn : Func} {mf : MFunc} {args : List AV} {ob : Nm → Option Ob} {cnt : Nat → Nat} (hfn : P.funcs[f]? = some fn) (hc : cFn P fn = some mf) (hcb : callable P f = true) (hn : args.length ≤ mf.n)
    (h : W P mf.body (kRet mf.res K) ⟨frameOf args, ob, cnt⟩) : CallS P f args ob cnt K := by
  refine callS_of (dr_sound hm) hfn hc hcb hn (awp_mono h fun x S hx => ?_)
  cases x with
  | exit i => exact hx
  | normal => exact hx
  | ret => exact hx
end

def isTree (r : TR) : AV → (Nm → Option Ob) → (Nat → Nat) → Prop := fun x ob cnt => treeOf ⟨fun _ => .undef, ob, cnt⟩ x = some r
theorem isTree_app {r : TR} {x : AV} {ob : Nm → Option Ob} {cnt : Nat → Nat} : isTree r x ob cnt = (treeOf ⟨fun _ => .undef, ob, cnt⟩ x = some r) := Eq.trans rfl rfl
theorem callOK_W {P : Program} {f : FuncId} {args : List TV} {r : TR} (h : CallS P f (args.map TV.av) noOb noCnt (isTree r)) : CallOK P f args r := callOK_of_S h
theorem beqI {a b : Int} : (a == b) = decide (a = b) := by by_cases h : a = b <;> simp [h]
theorem bneI {a b : Int} : (a != b) = !decide (a = b) := by by_cases h : a = b <;> simp [h]
theorem natNeg {x : Nat} : ((x : Int) < 0) = False := by simp
theorem noOb_app (o : Nm) : noOb o = none := Eq.trans rfl rfl
theorem noCnt_app (n : Nat) : noCnt n = 0 := Eq.trans rfl rfl

def kLoop (c k : Nat) (J : Nat → St → Prop) (Q : X → St → Prop) : X → St → Prop := fun x S => match x with
  | .normal => S.fr c = .one (.t (.int .i64 (k : Int))) ∧ J k S
  | x => Q x S
def kDone (Q : X → St → Prop) : X → St → Prop := fun x S => match x with
  | .normal => False
  | x => Q x S
theorem kLoop_n {c k : Nat} {J : Nat → St → Prop} {Q : X → St → Prop} {S : St} : kLoop c k J Q .normal S = (S.fr c = .one (.t (.int .i64 (k : Int))) ∧ J k S) := Eq.trans rfl rfl
theorem kLoop_e {c k i : Nat} {J : Nat → St → Prop} {Q : X → St → Prop} {S : St} : kLoop c k J Q (.exit i) S = Q (.exit i) S := Eq.trans rfl rfl
theorem kLoop_r {c k : Nat} {J : Nat → St → Prop} {Q : X → St → Prop} {S : St} : kLoop c k J Q .ret S = Q .ret S := Eq.trans rfl rfl
theorem kDone_e {i : Nat} {Q : X → St → Prop} {S : St} : kDone Q (.exit i) S = Q (.exit i) S := Eq.trans rfl rfl
theorem kDone_r {Q : X → St → Prop} {S : St} : kDone Q .ret S = Q .ret S := Eq.trans rfl rfl
theorem kDone_n {Q : X → St → Prop} {S : St} : kDone Q .normal S = False := Eq.trans rfl rfl

/-- A loop that counts up to n in a variable. -/
theorem loopW_count {P : Program} {b : MCode} {Q : X → St → Prop} {S : St} (c n : Nat) (J : Nat → St → Prop) (hn : n ≤ 9000000000000000000)
    (h0 : S.fr c = .one (.t (.int .i64 0)) ∧ J 0 S)
    (h1 : ∀ (k : Nat) (S : St), k < n → IntKind.i64.wrap ((k : Int) + 1) = ((k + 1 : Nat) : Int) → S.fr c = .one (.t (.int .i64 k)) → J k S → W P b (kLoop c (k + 1) J Q) S)
    (h2 : ∀ (S : St), S.fr c = .one (.t (.int .i64 n)) → J n S → W P b (kDone Q) S) : loopW P b Q S :=
  loop_count c n J hn h0 (fun k S a b c d => awp_mono (h1 k S a b c d) fun x S hx => by
    cases x with
    | normal => exact hx
    | exit i => exact hx
    | ret => exact hx) (fun S a b => awp_mono (h2 S a b) fun x S hx => by
    cases x with
    | normal => exact hx
    | exit i => exact hx
    | ret => exact hx)

def kInv (I : St → Prop) (μ : St → Nat) (n : Nat) (Q : X → St → Prop) : X → St → Prop := fun x S => match x with
  | .normal => I S ∧ μ S < n
  | x => Q x S
theorem kInv_n {I : St → Prop} {μ : St → Nat} {n : Nat} {Q : X → St → Prop} {S : St} : kInv I μ n Q .normal S = (I S ∧ μ S < n) := Eq.trans rfl rfl
theorem kInv_e {I : St → Prop} {μ : St → Nat} {n i : Nat} {Q : X → St → Prop} {S : St} : kInv I μ n Q (.exit i) S = Q (.exit i) S := Eq.trans rfl rfl
theorem kInv_r {I : St → Prop} {μ : St → Nat} {n : Nat} {Q : X → St → Prop} {S : St} : kInv I μ n Q .ret S = Q .ret S := Eq.trans rfl rfl
theorem loopW_intro {P : Program} {b : MCode} {Q : X → St → Prop} {S : St} (I : St → Prop) (μ : St → Nat) (h0 : I S) (h : ∀ S, I S → W P b (kInv I μ (μ S) Q) S) : loopW P b Q S :=
  loop_intro I μ h0 fun S hS => awp_mono (h S hS) fun x S hx => by
    cases x with
    | normal => exact hx
    | exit i => exact hx
    | ret => exact hx

/-- The first of f 0, .. f (n - 1) that is not 0. -/
def fe (f : Nat → Int) : Nat → Int
  | 0 => 0
  | n + 1 => if fe f n = 0 then f n else fe f n
theorem fe_zero {f : Nat → Int} : ∀ {n : Nat}, (∀ j, j < n → f j = 0) → fe f n = 0
  | 0, _ => rfl
  | n + 1, h => by
    have ih := fe_zero (n := n) fun j hj => h j (by omega)
    simp [fe, ih, h n (by omega)]
theorem fe_at {f : Nat → Int} {k : Nat} : ∀ {n : Nat}, k < n → (∀ j, j < k → f j = 0) → f k ≠ 0 → fe f n = f k
  | 0, h, _, _ => absurd h (by omega)
  | n + 1, h, h0, h1 => by
    by_cases e : k = n
    · subst e
      simp [fe, fe_zero h0]
    · have ih := fe_at (n := n) (by omega) h0 h1
      simp [fe, ih, h1]
theorem fe_eq {f : Nat → Int} : ∀ {n : Nat}, fe f n = 0 → ∀ j, j < n → f j = 0
  | 0, _, j, hj => absurd hj (by omega)
  | n + 1, h, j, hj => by
    by_cases e : fe f n = 0
    · simp [fe, e] at h
      by_cases e' : j = n
      · rw [e']; exact h
      · exact fe_eq e j (by omega)
    · simp [fe, e] at h
end Go.Proofs.Ythapbbpdcjmmfaa.Abs

/- Rows that grow; lists that loops collect; loops that count from a number on. -/
namespace Go.Proofs.Ythapbbpdcjmmfaa.Abs
open Go.RowKit
set_option linter.unusedVariables false
set_option linter.unusedSimpArgs false
set_option linter.defProp false

/-! ### Appending -/
def evApp (S : St) (nm typ esz bytes : Nat) (x : AV) (y : Option (Nat × List V1)) : Option Eff := match y with
  | some (k, news) => match trees news with
    | some ts => match x with
      | .one .nil => if k * bytes ≤ 140737488355328 ∧ ts.length = k * esz ∧ k ≤ 9223372036854775807 then
          (if k = 0 then some (S.val (.one .nil)) else some (S.new nm ⟨true, true, false, esz, k, typ, ts⟩ (.one (.row (nm, S.cnt nm)))))
        else none
      | .one (.row o) => match S.live o with
        | some b => if b.isRow = true ∧ b.frz = false ∧ b.esz = esz ∧ b.typ = typ ∧ (b.n + k) * bytes ≤ 140737488355328 ∧ ts.length = k * esz ∧ b.n + k ≤ 9223372036854775807 then
            some ⟨.one (.row (nm, S.cnt nm)), upd (upd S.ob o (some { b with live := false })) (nm, S.cnt nm) (some ⟨true, true, false, esz, b.n + k, typ, b.cells ++ ts⟩), upd S.cnt nm (S.cnt nm + 1)⟩
          else none
        | none => none
      | _ => none
    | none => none
  | none => none

theorem evApp_eq {S : St} {nm t e b : Nat} {x y : Arg} : evOp S (.append nm t e b x y) = evApp S nm t e b (x.ev S) (sliceOf S (y.ev S)) := Eq.trans rfl rfl

def kApp (nm typ esz bytes : Nat) (x : AV) (y : Option (Nat × List V1)) (S : St) (K : Eff → Prop) : Prop := thereIs (evApp S nm typ esz bytes x y) K
theorem o_app {P : Program} {Q : St → Prop} {S : St} {d : Option Nat} {r : List MOper} {nm t e b : Nat} {x y : Arg} :
    awpOps P (⟨d, .append nm t e b x y, none⟩ :: r) S Q = kApp nm t e b (x.ev S) (sliceOf S (y.ev S)) S (kOps P d r S Q) := by
  rw [o_append, evApp_eq]; exact Eq.trans rfl rfl
theorem d_app {P : Program} {S : St} {K : Eff → Prop} {nm t e b : Nat} {x y : Arg} : dAwpOp P S (.append nm t e b x y) K = kApp nm t e b (x.ev S) (sliceOf S (y.ev S)) S K := by
  rw [d_append, evApp_eq]; exact Eq.trans rfl rfl

/-- A list that appends have built: nil, or a row of its own. -/
def outR (nm typ esz n : Nat) (cs : List C) (ob : Nm → Option Ob) (v : AV) : Prop :=
  (n = 0 ∧ cs = [] ∧ v = .one .nil) ∨ (0 < n ∧ ∃ g, v = .one (.row (nm, g)) ∧ ob (nm, g) = some ⟨true, true, false, esz, n, typ, cs.map .t⟩)

theorem outR_nil {nm typ esz : Nat} {ob : Nm → Option Ob} : outR nm typ esz 0 [] ob (.one .nil) := .inl ⟨rfl, rfl, rfl⟩

theorem outR.rowIs {nm typ esz n : Nat} {cs : List C} {ob : Nm → Option Ob} {v : AV} (h : outR nm typ esz n cs ob v) : Abs.rowIs typ esz n cs ob v := by
  rcases h with ⟨h1, _, h2⟩ | ⟨h1, g, h2, h3⟩
  · exact .inl ⟨h1, h2⟩
  · exact .inr ⟨h1, _, _, h2, h3, rfl, rfl, rfl, rfl, rfl, rfl⟩

theorem trees_t (ts : List C) : trees (ts.map .t) = some (ts.map .t) := by
  induction ts with
  | nil => rfl
  | cons c r ih => simp [trees, V1.tree, ih]

theorem kApp_grow {nm typ esz bytes n k : Nat} {cs ts : List C} {v : AV} {S : St} {K : Eff → Prop} {news : List V1} (hnews : news = ts.map .t) (h : outR nm typ esz n cs S.ob v) (hk : 0 < k) (hl : ts.length = k * esz) (hb : (n + k) * bytes ≤ 140737488355328) (hn : n + k ≤ 9000000000000000000)
    (hK : ∀ E : Eff, outR nm typ esz (n + k) (cs ++ ts) E.ob E.v → (∀ a g, a ≠ nm → E.ob (a, g) = S.ob (a, g)) → (∀ a, a ≠ nm → E.cnt a = S.cnt a) → K E) : kApp nm typ esz bytes v (some (k, news)) S K := by
  subst hnews
  unfold kApp evApp
  simp only [trees_t, List.length_map]
  rcases h with ⟨rfl, rfl, rfl⟩ | ⟨h1, g, rfl, h3⟩
  · simp only
    rw [if_pos ⟨by simpa using hb, hl, by omega⟩, if_neg (by omega)]
    refine ⟨_, rfl, hK _ (.inr ⟨by omega, S.cnt nm, rfl, ?_⟩) (fun a g ha => ?_) (fun a ha => ?_)⟩
    · simp [St.new, upd_same]
    · simp only [St.new]
      exact upd_ne _ _ (fun e => ha (Prod.mk.inj e).1)
    · simp only [St.new]
      exact upd_ne _ _ ha
  · simp only [St.live, h3, if_true]
    rw [if_pos ⟨trivial, trivial, trivial, trivial, hb, hl, by omega⟩]
    refine ⟨_, rfl, hK _ (.inr ⟨by omega, S.cnt nm, rfl, ?_⟩) (fun a g' ha => ?_) (fun a ha => ?_)⟩
    · simp [upd_same]
    · show upd (upd S.ob (nm, g) _) (nm, S.cnt nm) _ (a, g') = _
      rw [upd_ne _ _ (fun e => ha (Prod.mk.inj e).1), upd_ne _ _ (fun e => ha (Prod.mk.inj e).1)]
    · exact upd_ne _ _ ha

theorem outR.keep {nm typ esz n : Nat} {cs : List C} {ob ob' : Nm → Option Ob} {v : AV} (h : outR nm typ esz n cs ob v) (ho : ∀ g, ob' (nm, g) = ob (nm, g)) : outR nm typ esz n cs ob' v := by
  rcases h with h | ⟨h1, g, h2, h3⟩
  · exact .inl h
  · exact .inr ⟨h1, g, h2, by rw [ho]; exact h3⟩

theorem outR.one {nm typ esz n : Nat} {cs : List C} {ob : Nm → Option Ob} {v : AV} (h : outR nm typ esz n cs ob v) : ∃ u, v = .one u := by
  rcases h with ⟨_, _, h⟩ | ⟨_, g, h, _⟩
  · exact ⟨_, h⟩
  · exact ⟨_, h⟩

/-! ### What loops collect -/
def collect {α : Type} (f : Nat → Option α) (k : Nat) : List α := (List.range k).filterMap f
theorem collect_zero {α : Type} {f : Nat → Option α} : collect f 0 = [] := rfl
theorem collect_some {α : Type} {f : Nat → Option α} {k : Nat} {x : α} (h : f k = some x) : collect f (k + 1) = collect f k ++ [x] := by simp [collect, List.range_succ, h]
theorem collect_none {α : Type} {f : Nat → Option α} {k : Nat} (h : f k = none) : collect f (k + 1) = collect f k := by simp [collect, List.range_succ, h]
theorem collect_len {α : Type} {f : Nat → Option α} {k : Nat} : (collect f k).length ≤ k := by
  have := List.length_filterMap_le f (List.range k)
  simpa [collect] using this
theorem collect_nil {α : Type} {f : Nat → Option α} {k : Nat} (h : ∀ j, j < k → f j = none) : collect f k = [] := by
  induction k with
  | zero => rfl
  | succ k ih => rw [collect_none (h k (by omega)), ih fun j hj => h j (by omega)]
theorem mem_collect {α : Type} {f : Nat → Option α} {k : Nat} {x : α} : x ∈ collect f k ↔ ∃ j, j < k ∧ f j = some x := by simp [collect]

def gather {α : Type} (f : Nat → List α) (k : Nat) : List α := (List.range k).flatMap f
theorem gather_zero {α : Type} {f : Nat → List α} : gather f 0 = [] := rfl
theorem gather_succ {α : Type} {f : Nat → List α} {k : Nat} : gather f (k + 1) = gather f k ++ f k := by simp [gather, List.range_succ]
theorem gather_len {α : Type} {f : Nat → List α} {m : Nat} (h : ∀ j, (f j).length ≤ m) : ∀ k, (gather f k).length ≤ k * m
  | 0 => by simp [gather]
  | k + 1 => by
    rw [gather_succ, List.length_append, Nat.add_mul]
    have := gather_len h k
    have := h k
    omega
theorem mem_gather {α : Type} {f : Nat → List α} {k : Nat} {x : α} : x ∈ gather f k ↔ ∃ j, j < k ∧ x ∈ f j := by simp [gather]

/-- A loop that counts from s up to n in a variable. -/
theorem loopW_from {P : Program} {b : MCode} {Q : X → St → Prop} {S : St} (c s n : Nat) (J : Nat → St → Prop) (hs : s ≤ n) (hn : n ≤ 9000000000000000000)
    (h0 : S.fr c = .one (.t (.int .i64 (s : Int))) ∧ J s S)
    (h1 : ∀ (k : Nat) (S : St), s ≤ k → k < n → IntKind.i64.wrap ((k : Int) + 1) = ((k + 1 : Nat) : Int) → S.fr c = .one (.t (.int .i64 k)) → J k S → W P b (kLoop c (k + 1) J Q) S)
    (h2 : ∀ (S : St), S.fr c = .one (.t (.int .i64 n)) → J n S → W P b (kDone Q) S) : loopW P b Q S := by
  refine loopW_intro (fun S => ∃ k : Nat, s ≤ k ∧ k ≤ n ∧ S.fr c = .one (.t (.int .i64 k)) ∧ J k S) (fun S => match S.fr c with | .one (.t (.int _ k)) => n - k.toNat | _ => 0) ⟨s, by omega, hs, h0.1, h0.2⟩ ?_
  rintro S ⟨k, hsk, hk, hc, hj⟩
  by_cases hlt : k < n
  · refine awp_mono (h1 k S hsk hlt (by rw [wrap64_id] <;> omega) hc hj) fun x S' hx => ?_
    cases x with
    | normal =>
      refine ⟨⟨k + 1, by omega, by omega, hx.1, hx.2⟩, ?_⟩
      have hx := hx.1
      simp only [hx, hc]
      omega
    | exit i => exact hx
    | ret => exact hx
  · have : k = n := by omega
    subst this
    refine awp_mono (h2 S hc hj) fun x S' hx => ?_
    cases x with
    | normal => exact hx.elim
    | exit i => exact hx
    | ret => exact hx

def isRowV (typ esz n : Nat) (cs : List C) : AV → (Nm → Option Ob) → (Nat → Nat) → Prop := fun x ob _ => rowIs typ esz n cs ob x
theorem isRowV_app {typ esz n : Nat} {cs : List C} {x : AV} {ob : Nm → Option Ob} {cnt : Nat → Nat} : isRowV typ esz n cs x ob cnt = rowIs typ esz n cs ob x := rfl
theorem callRow_W {P : Program} {f : FuncId} {args : List TV} {typ esz n : Nat} {cs : List C} (hpl : cs.all C.plain = true) (hl : cs.length = n * esz) (he : 0 < esz) (h : CallS P f (args.map TV.av) noOb noCnt (isRowV typ esz n cs)) : CallRow P f args typ esz n cs := callRow_of_S hpl hl he h

/-- A row of numbers comes back. -/
def RowI (P : Program) (f : FuncId) (args : List TV) (typ : Nat) (l : List Int) : Prop := CallRow P f args typ 1 l.length (l.map (.int .i64))
theorem RowI.ok {P : Program} {f : FuncId} {args : List TV} {typ : Nat} {l : List Int} (h : RowI P f args typ l) : CallOK P f args (.sv (false, [ints l])) := callOK_of_row h
theorem plain_ints (l : List Int) : (l.map (C.int .i64)).all C.plain = true := by simp [C.plain]
theorem plain_prL (l : List (Int × Int)) : (prL l).all C.plain = true := by
  simp only [prL, List.all_eq_true, List.mem_flatMap]
  rintro c ⟨x, _, hc⟩
  simp [prC] at hc
  rcases hc with rfl | rfl <;> rfl
/-! ### The rules in bundles -/
def rn0 := And.intro @w_skip (And.intro @w_region (And.intro @w_seq (And.intro @w_cond (And.intro @w_block (And.intro @w_loop (And.intro @w_exit (And.intro @w_ret (And.intro @kSeq_n (@kSeq_e)))))))))
def rn1 := And.intro @kSeq_r (And.intro @kBlk_n (And.intro @kBlk_e (And.intro @kBlk_r (And.intro @kCond_t (And.intro @kCond_f (And.intro @kCond_d (And.intro @kCond_n (And.intro @o_nil (@o_mv)))))))))
def rn2 := And.intro @o_pick (And.intro @o_alloc (And.intro @o_box (And.intro @o_build (And.intro @o_mkrow (And.intro @o_load (And.intro @o_store (And.intro @o_nilck (And.intro @o_bin (@o_eqS)))))))))
def rn3 := And.intro @o_not (And.intro @o_conv (And.intro @o_mkfn (And.intro @o_make (And.intro @o_fieldA (And.intro @o_idxA (And.intro @o_idxArr (And.intro @o_extract (And.intro @o_len (@o_app)))))))))
def rn4 := And.intro @o_minmax (And.intro @o_isnil (And.intro @o_call (And.intro @o_guard (And.intro @kOps_app (And.intro @kRes_app (And.intro @kGuard_tt (And.intro @kGuard_ff (And.intro @kGuard_tf (@kGuard_ft)))))))))
def rn5 := And.intro @kGuard_u (And.intro @kCall_c (And.intro @kNil_r (And.intro @kRet_r (And.intro @kRet_n (And.intro @kBack_some (And.intro @isTree_app (And.intro @isRowV_app (And.intro @kLoop_n (@kLoop_e)))))))))
def rn6 := And.intro @kLoop_r (And.intro @kDone_e (And.intro @kDone_r (And.intro @kInv_n (And.intro @kInv_e (And.intro @kInv_r (And.intro @thereIs_some (And.intro @thereIs_none (And.intro @upd_app (@noOb_app)))))))))
def rn7 := And.intro @noCnt_app (And.intro @beqI (And.intro @bneI (And.intro @natNeg (And.intro @len_edL (@len_prL)))))
def dw0 := And.intro @w_draw (And.intro @d_nil (And.intro @d_cons (And.intro @d_guard (And.intro @dGuard_tt (And.intro @dGuard_ff (And.intro @dGuard_tf (And.intro @dGuard_ft (And.intro @dGuard_u (@dOps_app)))))))))
def dw1 := And.intro @dDone_app (And.intro @d_mv (And.intro @d_pick (And.intro @d_alloc (And.intro @d_box (And.intro @d_build (And.intro @d_mkrow (And.intro @d_load (And.intro @d_store (@d_bin)))))))))
def dw2 := And.intro @d_eqS (And.intro @d_not (And.intro @d_conv (And.intro @d_make (And.intro @d_fieldA (And.intro @d_idxA (And.intro @d_idxArr (And.intro @d_extract (And.intro @d_len (@d_app)))))))))
def dw3 := And.intro @d_minmax (@d_call)
end Go.Proofs.Ythapbbpdcjmmfaa.Abs

/- Contracts of small functions over lists. -/
namespace Go.Proofs.Ythapbbpdcjmmfaa
open Abs
set_option linter.unusedSimpArgs false
set_option linter.unusedVariables false
attribute [local simp] rn0 rn1 rn2 rn3 rn4 rn5 rn6 rn7 evOp nests Arg.ev St.val St.set St.new sliceOf binInt2 binInt AV.cells rdAt St.live retOf resOf resAll treeOf treeCell treeCells treeTups untree frameOf TV.av TR.av ints edgs prs fillV splice intsOf trees V1.tree bx Gr.v Pa.v

/-- How long a list may be. -/
abbrev small (n : Nat) : Prop := n ≤ 9000000000000000000

def idx (l : List Int) (n : Int) : Int := if n ∈ l then (l.idxOf n : Nat) else -1

theorem idx_at {l : List Int} {n : Int} {k : Nat} (hk : k < l.length) (hn : n ∉ l.take k) (he : nth l k = n) : idx l n = k := by
  have hm : n ∈ l := he ▸ nth_mem hk
  simp only [idx, if_pos hm]
  rw [nth_eq hk] at he
  have h : l.idxOf n = k := by
    have e : l = l.take k ++ l[k] :: l.drop (k + 1) := by simp
    rw [e, List.idxOf_append, if_neg hn, he]
    simp [List.length_take]
    omega
  rw [h]

theorem take_nth {l : List Int} {k : Nat} {n : Int} (h : k < l.length) (hn : n ∉ l.take k) (hk : nth l k ≠ n) : n ∉ l.take (k + 1) := take_mem h hn (by rw [nth_eq h] at hk; exact hk)

def c_index : MFunc := ⟨19, [.tmp 4], .seq (.region [⟨some 4, .mv (.c (.one (.t (.int .i64 0)))), none⟩]) (.seq (.seq (.region [⟨some 6, .mv (.tmp 0), none⟩, ⟨some 7, .len (.tmp 6), none⟩, ⟨some 8, .mv (.c (.one (.t (.int .i64 0)))), none⟩]) (.block 0 (.loop (.seq (.region [⟨some 9, .bin .lss (.tmp 8) (.tmp 7), none⟩]) (.seq (.cond (.tmp 9) .skip (.exit 0)) (.seq (.block 1 (.seq (.region [⟨some 10, .mv (.tmp 8), none⟩, ⟨some 5, .mv (.tmp 10), none⟩]) (.seq (.region [⟨some 11, .mv (.tmp 1), none⟩, ⟨some 12, .mv (.tmp 0), none⟩, ⟨some 13, .mv (.tmp 5), none⟩, ⟨some 14, .idxA 1 (.tmp 12) (.tmp 13), none⟩, ⟨some 15, .load false 1 (.tmp 14), none⟩, ⟨some 16, .bin .eql (.tmp 11) (.tmp 15), none⟩]) (.cond (.tmp 16) (.seq (.region [⟨some 17, .mv (.tmp 5), none⟩, ⟨some 4, .mv (.tmp 17), none⟩]) .ret) .skip)))) (.region [⟨some 18, .bin .add (.tmp 8) (.c (.one (.t (.int .i64 1)))), none⟩, ⟨some 8, .mv (.tmp 18), none⟩]))))))) (.seq (.region [⟨some 4, .mv (.c (.one (.t (.int .i64 (-1))))), none⟩]) .ret))⟩
theorem k_index : cFn Try.prog Try.f37 = some c_index := by kernel_rfl
theorem index_ok (l : List Int) (n : Int) (hl : small l.length) : CallOK Try.prog 37 [(false, [ints l]), (false, [.int .i64 n])] (.sv (false, [.int .i64 (idx l n)])) := by
  refine callOK_W (callS_W (by kernel_rfl) Try.func37 k_index (callable_of Try.func37 (by kernel_rfl)) (by simp [c_index]) ?_)
  simp [c_index]
  refine loopW_count 8 l.length (fun k S => S.fr 0 = .one (.t (ints l)) ∧ S.fr 1 = .one (.t (.int .i64 n)) ∧ S.fr 7 = .one (.t (.int .i64 l.length)) ∧ S.ob = noOb ∧ S.cnt = noCnt ∧ n ∉ l.take k) hl ?_ ?_ ?_
  · simp
  · rintro k S hlt hw hc ⟨h0, h1, h7, hob, hcnt, hp⟩
    by_cases he : n = nth l k
    · simp [h0, h1, h7, hc, hlt, drop_nth hlt, ← he, idx_at hlt hp he.symm]
    · simp [h0, h1, h7, hc, hlt, drop_nth hlt, he, hw, hob, hcnt]
      exact take_nth hlt hp (fun e => he e.symm)
  · rintro S hc ⟨h0, h1, h7, hob, hcnt, hp⟩
    simp [h0, h1, h7, hc]
    simpa [idx] using hp

def c_contains : MFunc := ⟨9, [.tmp 4], .seq (.region [⟨some 4, .mv (.c (.one (.t (.bool false)))), none⟩]) (.seq (.region [⟨some 5, .mv (.tmp 0), none⟩, ⟨some 6, .mv (.tmp 1), none⟩, ⟨some 7, .call (.c (.one (.fn 37 []))) 66 [.tmp 5, .tmp 6], none⟩, ⟨some 8, .bin .geq (.tmp 7) (.c (.one (.t (.int .i64 0)))), none⟩, ⟨some 4, .mv (.tmp 8), none⟩]) .ret)⟩
theorem k_contains : cFn Try.prog Try.f33 = some c_contains := by kernel_rfl
theorem contains_ok (l : List Int) (n : Int) (hl : small l.length) : CallOK Try.prog 33 [(false, [ints l]), (false, [.int .i64 n])] (.sv (false, [.bool (decide (n ∈ l))])) := by
  refine callOK_W (callS_W (by kernel_rfl) Try.func33 k_contains (callable_of Try.func33 (by kernel_rfl)) (by simp [c_contains]) ?_)
  simp [c_contains]
  refine callS_tree (index_ok l n hl) ?_ ?_ ?_
  · rfl
  · rfl
  by_cases h : n ∈ l <;> simp [idx, h]

def c_has12 : MFunc := ⟨18, [.tmp 4], .seq (.region [⟨some 4, .mv (.c (.one (.t (.bool false)))), none⟩]) (.seq (.seq (.region [⟨some 5, .mv (.c (.one (.t (.int .i64 0)))), none⟩]) (.block 0 (.loop (.seq (.seq (.region [⟨some 6, .mv (.tmp 5), none⟩, ⟨some 7, .mv (.tmp 0), none⟩, ⟨some 8, .len (.tmp 7), none⟩, ⟨some 9, .bin .lss (.tmp 6) (.tmp 8), none⟩]) (.cond (.tmp 9) .skip (.exit 0))) (.seq (.block 1 (.seq (.region [⟨some 12, .mv (.tmp 0), none⟩, ⟨some 13, .mv (.tmp 5), none⟩, ⟨some 14, .idxA 1 (.tmp 12) (.tmp 13), none⟩, ⟨some 15, .load false 1 (.tmp 14), none⟩, ⟨some 16, .mv (.tmp 1), none⟩, ⟨some 17, .bin .eql (.tmp 15) (.tmp 16), none⟩]) (.cond (.tmp 17) (.seq (.region [⟨some 4, .mv (.c (.one (.t (.bool true)))), none⟩]) .ret) .skip))) (.region [⟨some 10, .mv (.tmp 5), none⟩, ⟨some 11, .bin .add (.tmp 10) (.c (.one (.t (.int .i64 1)))), none⟩, ⟨some 5, .mv (.tmp 11), none⟩])))))) (.seq (.region [⟨some 4, .mv (.c (.one (.t (.bool false)))), none⟩]) .ret))⟩
theorem k_has12 : cFn Try.prog Try.f74 = some c_has12 := by kernel_rfl
theorem has12_ok (l : List Int) (n : Int) (hl : small l.length) : CallOK Try.prog 74 [(false, [ints l]), (false, [.int .i64 n])] (.sv (false, [.bool (decide (n ∈ l))])) := by
  refine callOK_W (callS_W (by kernel_rfl) Try.func74 k_has12 (callable_of Try.func74 (by kernel_rfl)) (by simp [c_has12]) ?_)
  simp [c_has12]
  refine loopW_count 5 l.length (fun k S => S.fr 0 = .one (.t (ints l)) ∧ S.fr 1 = .one (.t (.int .i64 n)) ∧ S.ob = noOb ∧ S.cnt = noCnt ∧ n ∉ l.take k) hl ?_ ?_ ?_
  · simp
  · rintro k S hlt hw hc ⟨h0, h1, hob, hcnt, hp⟩
    by_cases he : nth l k = n
    · simp [h0, h1, hc, hlt, drop_nth hlt, he, show n ∈ l from he ▸ nth_mem hlt]
    · simp [h0, h1, hc, hlt, drop_nth hlt, he, hw, hob, hcnt]
      exact take_nth hlt hp he
  · rintro S hc ⟨h0, h1, hob, hcnt, hp⟩
    simp [h0, h1, hc]
    simpa using hp

def c_has07 : MFunc := ⟨18, [.tmp 4], .seq (.region [⟨some 4, .mv (.c (.one (.t (.bool false)))), none⟩]) (.seq (.seq (.region [⟨some 5, .mv (.c (.one (.t (.int .i64 0)))), none⟩]) (.block 0 (.loop (.seq (.seq (.region [⟨some 6, .mv (.tmp 5), none⟩, ⟨some 7, .mv (.tmp 0), none⟩, ⟨some 8, .len (.tmp 7), none⟩, ⟨some 9, .bin .lss (.tmp 6) (.tmp 8), none⟩]) (.cond (.tmp 9) .skip (.exit 0))) (.seq (.block 1 (.seq (.region [⟨some 12, .mv (.tmp 0), none⟩, ⟨some 13, .mv (.tmp 5), none⟩, ⟨some 14, .idxA 1 (.tmp 12) (.tmp 13), none⟩, ⟨some 15, .load false 1 (.tmp 14), none⟩, ⟨some 16, .mv (.tmp 1), none⟩, ⟨some 17, .bin .eql (.tmp 15) (.tmp 16), none⟩]) (.cond (.tmp 17) (.seq (.region [⟨some 4, .mv (.c (.one (.t (.bool true)))), none⟩]) .ret) .skip))) (.region [⟨some 10, .mv (.tmp 5), none⟩, ⟨some 11, .bin .add (.tmp 10) (.c (.one (.t (.int .i64 1)))), none⟩, ⟨some 5, .mv (.tmp 11), none⟩])))))) (.seq (.region [⟨some 4, .mv (.c (.one (.t (.bool false)))), none⟩]) .ret))⟩
theorem k_has07 : cFn Try.prog Try.f84 = some c_has07 := by kernel_rfl
theorem has07_ok (l : List Int) (n : Int) (hl : small l.length) : CallOK Try.prog 84 [(false, [ints l]), (false, [.int .i64 n])] (.sv (false, [.bool (decide (n ∈ l))])) := by
  refine callOK_W (callS_W (by kernel_rfl) Try.func84 k_has07 (callable_of Try.func84 (by kernel_rfl)) (by simp [c_has07]) ?_)
  simp [c_has07]
  refine loopW_count 5 l.length (fun k S => S.fr 0 = .one (.t (ints l)) ∧ S.fr 1 = .one (.t (.int .i64 n)) ∧ S.ob = noOb ∧ S.cnt = noCnt ∧ n ∉ l.take k) hl ?_ ?_ ?_
  · simp
  · rintro k S hlt hw hc ⟨h0, h1, hob, hcnt, hp⟩
    by_cases he : nth l k = n
    · simp [h0, h1, hc, hlt, drop_nth hlt, he, show n ∈ l from he ▸ nth_mem hlt]
    · simp [h0, h1, hc, hlt, drop_nth hlt, he, hw, hob, hcnt]
      exact take_nth hlt hp he
  · rintro S hc ⟨h0, h1, hob, hcnt, hp⟩
    simp [h0, h1, hc]
    simpa using hp

def within (n most : Int) : Bool := decide (0 ≤ n) && decide (n ≤ most)
def c_within : MFunc := ⟨12, [.tmp 4], .seq (.region [⟨some 4, .mv (.c (.one (.t (.bool false)))), none⟩]) (.seq (.region [⟨some 5, .mv (.tmp 0), none⟩, ⟨some 6, .bin .geq (.tmp 5) (.c (.one (.t (.int .i64 0)))), none⟩, ⟨some 7, .mv (.tmp 6), none⟩, ⟨some 8, .mv (.tmp 0), some (7, true)⟩, ⟨some 9, .mv (.tmp 1), some (7, true)⟩, ⟨some 10, .bin .leq (.tmp 8) (.tmp 9), some (7, true)⟩, ⟨some 11, .pick (.tmp 7) (.tmp 10) (.c (.one (.t (.bool false)))), none⟩, ⟨some 4, .mv (.tmp 11), none⟩]) .ret)⟩
theorem k_within : cFn Try.prog Try.f116 = some c_within := by kernel_rfl
theorem within_ok (n most : Int) : CallOK Try.prog 116 [(false, [.int .i64 n]), (false, [.int .i64 most])] (.sv (false, [.bool (within n most)])) := by
  refine callOK_W (callS_W (by kernel_rfl) Try.func116 k_within (callable_of Try.func116 (by kernel_rfl)) (by simp [c_within]) ?_)
  by_cases h : 0 ≤ n <;> simp [c_within, within, h]

def c_kind : MFunc := ⟨9, [.tmp 2], .seq (.region [⟨some 2, .mv (.c (.one (.t (.bool false)))), none⟩]) (.seq (.region [⟨some 3, .mv (.tmp 0), none⟩, ⟨some 4, .bin .geq (.tmp 3) (.c (.one (.t (.int .i64 0)))), none⟩, ⟨some 5, .mv (.tmp 4), none⟩, ⟨some 6, .mv (.tmp 0), some (5, true)⟩, ⟨some 7, .bin .leq (.tmp 6) (.c (.one (.t (.int .i64 99)))), some (5, true)⟩, ⟨some 8, .pick (.tmp 5) (.tmp 7) (.c (.one (.t (.bool false)))), none⟩, ⟨some 2, .mv (.tmp 8), none⟩]) .ret)⟩
theorem k_kind : cFn Try.prog Try.f107 = some c_kind := by kernel_rfl
theorem kind_ok (n : Int) : CallOK Try.prog 107 [(false, [.int .i64 n])] (.sv (false, [.bool (within n 99)])) := by
  refine callOK_W (callS_W (by kernel_rfl) Try.func107 k_kind (callable_of Try.func107 (by kernel_rfl)) (by simp [c_kind]) ?_)
  by_cases h : 0 ≤ n <;> simp [c_kind, within, h]
end Go.Proofs.Ythapbbpdcjmmfaa

/- Contracts: what a valid graph is, in the program and in the reference. -/
namespace Go.Proofs.Ythapbbpdcjmmfaa
open Abs
set_option linter.unusedSimpArgs false
set_option linter.unusedVariables false
attribute [local simp] rn0 rn1 rn2 rn3 rn4 rn5 rn6 rn7 evOp nests Arg.ev St.val St.set St.new sliceOf binInt2 binInt AV.cells rdAt St.live retOf resOf resAll treeOf treeCell treeCells treeTups untree frameOf TV.av TR.av ints edgs prs fillV splice intsOf trees V1.tree bx Gr.v Pa.v

def edV (e : Ed) : TV := (true, edC e)
def eOk (n : Int) (e : Ed) : Bool := within e.t 99 && within e.f (n - 1) && within e.g (n - 1)

theorem within_lt (a n : Int) : within a (n - 1) = (decide (0 ≤ a) && decide (a < n)) := by
  by_cases h : 0 ≤ a <;> simp [within, h] <;> omega

def c_right : MFunc := ⟨30, [.tmp 4], .seq (.region [⟨some 2, .box 0 73 (.tmp 0), none⟩, ⟨some 4, .mv (.c (.one (.t (.bool false)))), none⟩]) (.seq (.region [⟨some 5, .fieldA 0 (.tmp 2), none⟩, ⟨some 6, .load false 1 (.tmp 5), none⟩, ⟨some 7, .call (.c (.one (.fn 107 []))) 66 [.tmp 6], none⟩, ⟨some 8, .mv (.tmp 7), none⟩, ⟨some 9, .fieldA 1 (.tmp 2), some (8, true)⟩, ⟨some 10, .load false 1 (.tmp 9), some (8, true)⟩, ⟨some 11, .bin .geq (.tmp 10) (.c (.one (.t (.int .i64 0)))), some (8, true)⟩, ⟨some 12, .pick (.tmp 8) (.tmp 11) (.c (.one (.t (.bool false)))), none⟩, ⟨some 13, .mv (.tmp 12), none⟩, ⟨some 14, .fieldA 1 (.tmp 2), some (13, true)⟩, ⟨some 15, .load false 1 (.tmp 14), some (13, true)⟩, ⟨some 16, .mv (.tmp 1), some (13, true)⟩, ⟨some 17, .bin .lss (.tmp 15) (.tmp 16), some (13, true)⟩, ⟨some 18, .pick (.tmp 13) (.tmp 17) (.c (.one (.t (.bool false)))), none⟩, ⟨some 19, .mv (.tmp 18), none⟩, ⟨some 20, .fieldA 2 (.tmp 2), some (19, true)⟩, ⟨some 21, .load false 1 (.tmp 20), some (19, true)⟩, ⟨some 22, .bin .geq (.tmp 21) (.c (.one (.t (.int .i64 0)))), some (19, true)⟩, ⟨some 23, .pick (.tmp 19) (.tmp 22) (.c (.one (.t (.bool false)))), none⟩, ⟨some 24, .mv (.tmp 23), none⟩, ⟨some 25, .fieldA 2 (.tmp 2), some (24, true)⟩, ⟨some 26, .load false 1 (.tmp 25), some (24, true)⟩, ⟨some 27, .mv (.tmp 1), some (24, true)⟩, ⟨some 28, .bin .lss (.tmp 26) (.tmp 27), some (24, true)⟩, ⟨some 29, .pick (.tmp 24) (.tmp 28) (.c (.one (.t (.bool false)))), none⟩, ⟨some 4, .mv (.tmp 29), none⟩]) .ret)⟩
theorem k_right : cFn Try.prog Try.f108 = some c_right := by kernel_rfl
theorem right_ok (e : Ed) (n : Int) : CallOK Try.prog 108 [edV e, (false, [.int .i64 n])] (.sv (false, [.bool (eOk n e)])) := by
  refine callOK_W (callS_W (by kernel_rfl) Try.func108 k_right (callable_of Try.func108 (by kernel_rfl)) (by simp [c_right]) ?_)
  simp [c_right, edV, edC]
  refine callS_tree (kind_ok e.t) ?_ ?_ ?_
  · rfl
  · rfl
  simp only [eOk, within_lt]
  cases h1 : within e.t 99 <;> by_cases h2 : 0 ≤ e.f <;> by_cases h3 : e.f < n <;> by_cases h4 : 0 ≤ e.g <;> by_cases h5 : e.g < n <;> simp [h1, h2, h3, h4, h5]

def c_fits : MFunc := ⟨22, [.tmp 4], .seq (.region [⟨some 2, .box 0 73 (.tmp 0), none⟩, ⟨some 4, .mv (.c (.one (.t (.bool false)))), none⟩]) (.seq (.region [⟨some 5, .fieldA 0 (.tmp 2), none⟩, ⟨some 6, .load false 1 (.tmp 5), none⟩, ⟨some 7, .call (.c (.one (.fn 116 []))) 66 [.tmp 6, .c (.one (.t (.int .i64 99)))], none⟩, ⟨some 8, .mv (.tmp 7), none⟩, ⟨some 9, .fieldA 1 (.tmp 2), some (8, true)⟩, ⟨some 10, .load false 1 (.tmp 9), some (8, true)⟩, ⟨some 11, .mv (.tmp 1), some (8, true)⟩, ⟨some 12, .bin .sub (.tmp 11) (.c (.one (.t (.int .i64 1)))), some (8, true)⟩, ⟨some 13, .call (.c (.one (.fn 116 []))) 72 [.tmp 10, .tmp 12], some (8, true)⟩, ⟨some 14, .pick (.tmp 8) (.tmp 13) (.c (.one (.t (.bool false)))), none⟩, ⟨some 15, .mv (.tmp 14), none⟩, ⟨some 16, .fieldA 2 (.tmp 2), some (15, true)⟩, ⟨some 17, .load false 1 (.tmp 16), some (15, true)⟩, ⟨some 18, .mv (.tmp 1), some (15, true)⟩, ⟨some 19, .bin .sub (.tmp 18) (.c (.one (.t (.int .i64 1)))), some (15, true)⟩, ⟨some 20, .call (.c (.one (.fn 116 []))) 79 [.tmp 17, .tmp 19], some (15, true)⟩, ⟨some 21, .pick (.tmp 15) (.tmp 20) (.c (.one (.t (.bool false)))), none⟩, ⟨some 4, .mv (.tmp 21), none⟩]) .ret)⟩
theorem k_fits : cFn Try.prog Try.f119 = some c_fits := by kernel_rfl
theorem fits_ok (e : Ed) (n : Int) (hn : 0 ≤ n ∧ n ≤ 1000000) : CallOK Try.prog 119 [edV e, (false, [.int .i64 n])] (.sv (false, [.bool (eOk n e)])) := by
  refine callOK_W (callS_W (by kernel_rfl) Try.func119 k_fits (callable_of Try.func119 (by kernel_rfl)) (by simp [c_fits]) ?_)
  have hw : IntKind.i64.wrap (n - 1) = n - 1 := by rw [wrap64_id] <;> omega
  simp [c_fits, edV, edC]
  refine callS_tree (within_ok e.t 99) ?_ ?_ ?_
  · rfl
  · rfl
  cases h1 : within e.t 99
  · simp [eOk, h1]
  · simp [h1, hw]
    refine callS_tree (within_ok e.f (n - 1)) ?_ ?_ ?_
    · rfl
    · rfl
    cases h2 : within e.f (n - 1)
    · simp [eOk, h1, h2]
    · simp [h1, h2, hw]
      refine callS_tree (within_ok e.g (n - 1)) ?_ ?_ ?_
      · rfl
      · rfl
      simp [eOk, h1, h2]

/-- The first place where p holds, or -1. -/
def fidx {α : Type} (p : α → Bool) (l : List α) : Int := if l.any p then (l.findIdx p : Nat) else -1

theorem fidx_at {α : Type} {p : α → Bool} {l : List α} {k : Nat} (hk : k < l.length) (hn : ∀ j, (h : j < k) → p (l[j]'(by omega)) = false) (he : p l[k] = true) : fidx p l = k := by
  have ha : l.any p = true := List.any_eq_true.2 ⟨l[k], List.getElem_mem hk, he⟩
  have : l.findIdx p = k := List.findIdx_eq hk |>.2 ⟨he, hn⟩
  simp [fidx, ha, this]

theorem fidx_none {α : Type} {p : α → Bool} {l : List α} (hn : ∀ j, (h : j < l.length) → p l[j] = false) : fidx p l = -1 := by
  have ha : l.any p = false := by
    rw [List.any_eq_false]
    intro x hx
    obtain ⟨j, hj, rfl⟩ := List.mem_iff_getElem.1 hx
    simp [hn j hj]
  simp [fidx, ha]

def c_indexF : MFunc := ⟨19, [.tmp 4], .seq (.region [⟨some 4, .mv (.c (.one (.t (.int .i64 0)))), none⟩]) (.seq (.seq (.region [⟨some 6, .mv (.tmp 0), none⟩, ⟨some 7, .len (.tmp 6), none⟩, ⟨some 8, .mv (.c (.one (.t (.int .i64 0)))), none⟩]) (.block 0 (.loop (.seq (.region [⟨some 9, .bin .lss (.tmp 8) (.tmp 7), none⟩]) (.seq (.cond (.tmp 9) .skip (.exit 0)) (.seq (.block 1 (.seq (.region [⟨some 10, .mv (.tmp 8), none⟩, ⟨some 5, .mv (.tmp 10), none⟩]) (.seq (.region [⟨some 11, .mv (.tmp 1), none⟩, ⟨some 12, .mv (.tmp 0), none⟩, ⟨some 13, .mv (.tmp 5), none⟩, ⟨some 14, .idxA 1 (.tmp 12) (.tmp 13), none⟩, ⟨some 15, .load false 1 (.tmp 14), none⟩, ⟨some 16, .call (.tmp 11) 261 [.tmp 15], none⟩]) (.cond (.tmp 16) (.seq (.region [⟨some 17, .mv (.tmp 5), none⟩, ⟨some 4, .mv (.tmp 17), none⟩]) .ret) .skip)))) (.region [⟨some 18, .bin .add (.tmp 8) (.c (.one (.t (.int .i64 1)))), none⟩, ⟨some 8, .mv (.tmp 18), none⟩]))))))) (.seq (.region [⟨some 4, .mv (.c (.one (.t (.int .i64 (-1))))), none⟩]) .ret))⟩
theorem k_indexF : cFn Try.prog Try.f61 = some c_indexF := by kernel_rfl
theorem indexF_S {g : FuncId} {caps : List Nm} {ob : Nm → Option Ob} {cnt : Nat → Nat} {K : AV → (Nm → Option Ob) → (Nat → Nat) → Prop} (l : List Int) (p : Int → Bool) (hl : small l.length) (I : (Nm → Option Ob) → (Nat → Nat) → Prop)
    (h : ∀ x ∈ l, ∀ ob cnt, I ob cnt → ∀ K : AV → (Nm → Option Ob) → (Nat → Nat) → Prop, (∀ ob cnt, I ob cnt → K (.one (.t (.bool (p x)))) ob cnt) → CallS Try.prog g (.one (.t (.int .i64 x)) :: caps.map (fun n => .one (.ptr n 0))) ob cnt K)
    (hI : I ob cnt) (hK : ∀ ob cnt, I ob cnt → K (.one (.t (.int .i64 (fidx p l)))) ob cnt) : CallS Try.prog 61 [.one (.t (ints l)), .one (.fn g caps)] ob cnt K := by
  refine callS_W (by kernel_rfl) Try.func61 k_indexF (callable_of Try.func61 (by kernel_rfl)) (by simp [c_indexF]) ?_
  simp [c_indexF]
  refine loopW_count 8 l.length (fun k S => S.fr 0 = .one (.t (ints l)) ∧ S.fr 1 = .one (.fn g caps) ∧ S.fr 7 = .one (.t (.int .i64 l.length)) ∧ I S.ob S.cnt ∧ ∀ j, (hj : j < l.length) → j < k → p l[j] = false) hl ?_ ?_ ?_
  · simp [hI]
  · rintro k S hlt hw hc ⟨h0, h1, h7, hi, hp⟩
    simp [h0, h1, h7, hc, hlt, drop_nth hlt, kCall_k]
    refine h _ (nth_mem hlt) _ _ hi _ fun ob cnt hi => ?_
    cases he : p (nth l k)
    · simp [h0, h1, h7, hc, he, hw, hi]
      intro j hj hk
      rcases Nat.lt_succ_iff_lt_or_eq.1 hk with hk | rfl
      · exact hp j hj hk
      · rw [nth_eq hlt] at he
        exact he
    · have e : fidx p l = k := fidx_at hlt (fun j hj => hp j _ hj) (by rw [nth_eq hlt] at he; exact he)
      have hK := hK ob cnt hi
      simp [h0, h1, h7, hc, he, hw, e] at hK ⊢
      exact hK
  · rintro S hc ⟨h0, h1, h7, hi, hp⟩
    have e : fidx p l = -1 := fidx_none fun j hj => hp j hj hj
    have hK := hK _ _ hi
    rw [e] at hK
    simpa [h0, h1, h7, hc] using hK

def c_containsF : MFunc := ⟨9, [.tmp 4], .seq (.region [⟨some 4, .mv (.c (.one (.t (.bool false)))), none⟩]) (.seq (.region [⟨some 5, .mv (.tmp 0), none⟩, ⟨some 6, .mv (.tmp 1), none⟩, ⟨some 7, .call (.c (.one (.fn 61 []))) 66 [.tmp 5, .tmp 6], none⟩, ⟨some 8, .bin .geq (.tmp 7) (.c (.one (.t (.int .i64 0)))), none⟩, ⟨some 4, .mv (.tmp 8), none⟩]) .ret)⟩
theorem k_containsF : cFn Try.prog Try.f31 = some c_containsF := by kernel_rfl
theorem containsF_S {g : FuncId} {caps : List Nm} {ob : Nm → Option Ob} {cnt : Nat → Nat} {K : AV → (Nm → Option Ob) → (Nat → Nat) → Prop} (l : List Int) (p : Int → Bool) (hl : small l.length) (I : (Nm → Option Ob) → (Nat → Nat) → Prop)
    (h : ∀ x ∈ l, ∀ ob cnt, I ob cnt → ∀ K : AV → (Nm → Option Ob) → (Nat → Nat) → Prop, (∀ ob cnt, I ob cnt → K (.one (.t (.bool (p x)))) ob cnt) → CallS Try.prog g (.one (.t (.int .i64 x)) :: caps.map (fun n => .one (.ptr n 0))) ob cnt K)
    (hI : I ob cnt) (hK : ∀ ob cnt, I ob cnt → K (.one (.t (.bool (l.any p)))) ob cnt) : CallS Try.prog 31 [.one (.t (ints l)), .one (.fn g caps)] ob cnt K := by
  refine callS_W (by kernel_rfl) Try.func31 k_containsF (callable_of Try.func31 (by kernel_rfl)) (by simp [c_containsF]) ?_
  simp [c_containsF]
  refine indexF_S l p hl I h hI fun ob cnt hi => ?_
  have hK := hK ob cnt hi
  cases ha : l.any p <;> (rw [ha] at hK; simpa [fidx, ha] using hK)
end Go.Proofs.Ythapbbpdcjmmfaa

/- Contracts: what a valid graph is, in the program and in the reference (2). -/
namespace Go.Proofs.Ythapbbpdcjmmfaa
open Abs
set_option linter.unusedSimpArgs false
set_option linter.unusedVariables false
attribute [local simp] rn0 rn1 rn2 rn3 rn4 rn5 rn6 rn7 evOp nests Arg.ev St.val St.set St.new sliceOf binInt2 binInt AV.cells rdAt St.live retOf resOf resAll treeOf treeCell treeCells treeTups untree frameOf TV.av TR.av ints edgs prs fillV splice intsOf trees V1.tree bx Gr.v Pa.v opRd opWr opNew opNewR opArgs argsRd argRd Arg.rd AV.refs V1.refs refsL dstL

def c_indexFE : MFunc := ⟨19, [.tmp 4], .seq (.region [⟨some 4, .mv (.c (.one (.t (.int .i64 0)))), none⟩]) (.seq (.seq (.region [⟨some 6, .mv (.tmp 0), none⟩, ⟨some 7, .len (.tmp 6), none⟩, ⟨some 8, .mv (.c (.one (.t (.int .i64 0)))), none⟩]) (.block 0 (.loop (.seq (.region [⟨some 9, .bin .lss (.tmp 8) (.tmp 7), none⟩]) (.seq (.cond (.tmp 9) .skip (.exit 0)) (.seq (.block 1 (.seq (.region [⟨some 10, .mv (.tmp 8), none⟩, ⟨some 5, .mv (.tmp 10), none⟩]) (.seq (.region [⟨some 11, .mv (.tmp 1), none⟩, ⟨some 12, .mv (.tmp 0), none⟩, ⟨some 13, .mv (.tmp 5), none⟩, ⟨some 14, .idxA 3 (.tmp 12) (.tmp 13), none⟩, ⟨some 15, .load true 3 (.tmp 14), none⟩, ⟨some 16, .call (.tmp 11) 261 [.tmp 15], none⟩]) (.cond (.tmp 16) (.seq (.region [⟨some 17, .mv (.tmp 5), none⟩, ⟨some 4, .mv (.tmp 17), none⟩]) .ret) .skip)))) (.region [⟨some 18, .bin .add (.tmp 8) (.c (.one (.t (.int .i64 1)))), none⟩, ⟨some 8, .mv (.tmp 18), none⟩]))))))) (.seq (.region [⟨some 4, .mv (.c (.one (.t (.int .i64 (-1))))), none⟩]) .ret))⟩
theorem k_indexFE : cFn Try.prog Try.f133 = some c_indexFE := by kernel_rfl
theorem indexFE_S {g : FuncId} {caps : List Nm} {ob : Nm → Option Ob} {cnt : Nat → Nat} {K : AV → (Nm → Option Ob) → (Nat → Nat) → Prop} (l : List Ed) (p : Ed → Bool) (hl : small l.length) (I : (Nm → Option Ob) → (Nat → Nat) → Prop)
    (h : ∀ x ∈ l, ∀ ob cnt, I ob cnt → ∀ K : AV → (Nm → Option Ob) → (Nat → Nat) → Prop, (∀ ob cnt, I ob cnt → K (.one (.t (.bool (p x)))) ob cnt) → CallS Try.prog g (.agg ((edC x).map .t) :: caps.map (fun n => .one (.ptr n 0))) ob cnt K)
    (hI : I ob cnt) (hK : ∀ ob cnt, I ob cnt → K (.one (.t (.int .i64 (fidx p l)))) ob cnt) : CallS Try.prog 133 [.one (.t (edgs l)), .one (.fn g caps)] ob cnt K := by
  refine callS_W (by kernel_rfl) Try.func133 k_indexFE (callable_of Try.func133 (by kernel_rfl)) (by simp [c_indexFE]) ?_
  simp [c_indexFE]
  refine loopW_count 8 l.length (fun k S => S.fr 0 = .one (.t (edgs l)) ∧ S.fr 1 = .one (.fn g caps) ∧ S.fr 7 = .one (.t (.int .i64 l.length)) ∧ I S.ob S.cnt ∧ ∀ j, (hj : j < l.length) → j < k → p l[j] = false) hl ?_ ?_ ?_
  · simp [hI]
  · rintro k S hlt hw hc ⟨h0, h1, h7, hi, hp⟩
    have hlt3 : k * 3 < l.length * 3 := by omega
    simp [h0, h1, h7, hc, hlt, hlt3, drop_edL hlt, kCall_k]
    refine h _ (eth_mem hlt) _ _ hi _ fun ob cnt hi => ?_
    have he' : eth l k = l[k] := by simp [eth, hlt]
    cases he : p (eth l k)
    · simp [h0, h1, h7, hc, he, hw, hi]
      intro j hj hk
      rcases Nat.lt_succ_iff_lt_or_eq.1 hk with hk | rfl
      · exact hp j hj hk
      · rw [he'] at he
        exact he
    · have e : fidx p l = k := fidx_at hlt (fun j hj => hp j _ hj) (by rw [he'] at he; exact he)
      have hK := hK ob cnt hi
      simp [h0, h1, h7, hc, he, hw, e] at hK ⊢
      exact hK
  · rintro S hc ⟨h0, h1, h7, hi, hp⟩
    have e : fidx p l = -1 := fidx_none fun j hj => hp j hj hj
    have hK := hK _ _ hi
    rw [e] at hK
    simpa [h0, h1, h7, hc] using hK

def c_containsFE : MFunc := ⟨9, [.tmp 4], .seq (.region [⟨some 4, .mv (.c (.one (.t (.bool false)))), none⟩]) (.seq (.region [⟨some 5, .mv (.tmp 0), none⟩, ⟨some 6, .mv (.tmp 1), none⟩, ⟨some 7, .call (.c (.one (.fn 133 []))) 66 [.tmp 5, .tmp 6], none⟩, ⟨some 8, .bin .geq (.tmp 7) (.c (.one (.t (.int .i64 0)))), none⟩, ⟨some 4, .mv (.tmp 8), none⟩]) .ret)⟩
theorem k_containsFE : cFn Try.prog Try.f117 = some c_containsFE := by kernel_rfl
theorem containsFE_S {g : FuncId} {caps : List Nm} {ob : Nm → Option Ob} {cnt : Nat → Nat} {K : AV → (Nm → Option Ob) → (Nat → Nat) → Prop} (l : List Ed) (p : Ed → Bool) (hl : small l.length) (I : (Nm → Option Ob) → (Nat → Nat) → Prop)
    (h : ∀ x ∈ l, ∀ ob cnt, I ob cnt → ∀ K : AV → (Nm → Option Ob) → (Nat → Nat) → Prop, (∀ ob cnt, I ob cnt → K (.one (.t (.bool (p x)))) ob cnt) → CallS Try.prog g (.agg ((edC x).map .t) :: caps.map (fun n => .one (.ptr n 0))) ob cnt K)
    (hI : I ob cnt) (hK : ∀ ob cnt, I ob cnt → K (.one (.t (.bool (l.any p)))) ob cnt) : CallS Try.prog 117 [.one (.t (edgs l)), .one (.fn g caps)] ob cnt K := by
  refine callS_W (by kernel_rfl) Try.func117 k_containsFE (callable_of Try.func117 (by kernel_rfl)) (by simp [c_containsFE]) ?_
  simp [c_containsFE]
  refine indexFE_S l p hl I h hI fun ob cnt hi => ?_
  have hK := hK ob cnt hi
  cases ha : l.any p <;> (rw [ha] at hK; simpa [fidx, ha] using hK)

def nBad (l : List Int) : Bool := l.any fun x => !within x 99
def eBad (n : Nat) (l : List Ed) : Bool := l.any fun e => !eOk n e
/-- The error of a graph. -/
def gErr (g : Gr) : Int :=
  if (40 : Int) < g.nodes.length ∨ (80 : Int) < g.edges.length then 3
  else if nBad g.nodes then 6
  else if eBad g.nodes.length g.edges then 6 else 0

def c_valid1 : MFunc := ⟨6, [.tmp 2], .seq (.region [⟨some 2, .mv (.c (.one (.t (.bool false)))), none⟩]) (.seq (.region [⟨some 3, .mv (.tmp 0), none⟩, ⟨some 4, .call (.c (.one (.fn 116 []))) 65 [.tmp 3, .c (.one (.t (.int .i64 99)))], none⟩, ⟨some 5, .not (.tmp 4), none⟩, ⟨some 2, .mv (.tmp 5), none⟩]) .ret)⟩
theorem k_valid1 : cFn Try.prog Try.f115 = some c_valid1 := by kernel_rfl
def c_valid2 : MFunc := ⟨10, [.tmp 3], .seq (.region [⟨some 2, .box 0 73 (.tmp 0), none⟩, ⟨some 3, .mv (.c (.one (.t (.bool false)))), none⟩]) (.seq (.region [⟨some 4, .load true 3 (.tmp 2), none⟩, ⟨some 5, .fieldA 0 (.tmp 1), none⟩, ⟨some 6, .load false 1 (.tmp 5), none⟩, ⟨some 7, .len (.tmp 6), none⟩, ⟨some 8, .call (.c (.one (.fn 119 []))) 68 [.tmp 4, .tmp 7], none⟩, ⟨some 9, .not (.tmp 8), none⟩, ⟨some 3, .mv (.tmp 9), none⟩]) .ret)⟩
theorem k_valid2 : cFn Try.prog Try.f118 = some c_valid2 := by kernel_rfl
def c_gvalid : MFunc := ⟨20, [.tmp 2], .seq (.region [⟨some 1, .box 0 25 (.tmp 0), none⟩, ⟨some 2, .mv (.c (.one (.t (.int .i64 0)))), none⟩]) (.seq (.seq (.region [⟨some 3, .fieldA 0 (.tmp 1), none⟩, ⟨some 4, .load false 1 (.tmp 3), none⟩, ⟨some 5, .len (.tmp 4), none⟩, ⟨some 6, .bin .gtr (.tmp 5) (.c (.one (.t (.int .i64 40)))), none⟩, ⟨some 7, .mv (.tmp 6), none⟩, ⟨some 8, .fieldA 1 (.tmp 1), some (7, false)⟩, ⟨some 9, .load false 1 (.tmp 8), some (7, false)⟩, ⟨some 10, .len (.tmp 9), some (7, false)⟩, ⟨some 11, .bin .gtr (.tmp 10) (.c (.one (.t (.int .i64 80)))), some (7, false)⟩, ⟨some 12, .pick (.tmp 7) (.c (.one (.t (.bool true)))) (.tmp 11), none⟩]) (.cond (.tmp 12) (.seq (.region [⟨some 2, .mv (.c (.one (.t (.int .i64 3)))), none⟩]) .ret) .skip)) (.seq (.seq (.region [⟨some 13, .fieldA 0 (.tmp 1), none⟩, ⟨some 14, .load false 1 (.tmp 13), none⟩, ⟨some 15, .call (.c (.one (.fn 31 []))) 194 [.tmp 14, .c (.one (.fn 115 []))], none⟩]) (.cond (.tmp 15) (.seq (.region [⟨some 2, .mv (.c (.one (.t (.int .i64 6)))), none⟩]) .ret) .skip)) (.seq (.seq (.region [⟨some 16, .fieldA 1 (.tmp 1), none⟩, ⟨some 17, .load false 1 (.tmp 16), none⟩, ⟨some 18, .mkfn 118 [.tmp 1], none⟩, ⟨some 19, .call (.c (.one (.fn 117 []))) 323 [.tmp 17, .tmp 18], none⟩]) (.cond (.tmp 19) (.seq (.region [⟨some 2, .mv (.c (.one (.t (.int .i64 6)))), none⟩]) .ret) .skip)) (.seq (.region [⟨some 2, .mv (.c (.one (.t (.int .i64 0)))), none⟩]) .ret))))⟩
theorem k_gvalid : cFn Try.prog Try.f85 = some c_gvalid := by kernel_rfl
theorem gvalid_ok (g : Gr) (hn : small g.nodes.length) (he : small g.edges.length) : CallOK Try.prog 85 [g.v] (.sv (false, [.int .i64 (gErr g)])) := by
  refine callOK_W (callS_W (by kernel_rfl) Try.func85 k_gvalid (callable_of Try.func85 (by kernel_rfl)) (by simp [c_gvalid]) ?_)
  by_cases h1 : (40 : Int) < g.nodes.length
  · simp [c_gvalid, h1, gErr]
  by_cases h2 : (80 : Int) < g.edges.length
  · simp [c_gvalid, h1, h2, gErr]
  simp [c_gvalid, h1, h2]
  let I : (Nm → Option Ob) → (Nat → Nat) → Prop := fun ob cnt => ob (0, 0) = some (bx 25 (g.v.2.map .t)) ∧ 0 < cnt 0
  refine containsF_S (caps := []) g.nodes (fun x => !within x 99) hn I (fun x _ ob cnt hi K hK => ?_) ?_ ?_
  · refine callS_W (by kernel_rfl) Try.func115 k_valid1 (callable_of Try.func115 (by kernel_rfl)) (by simp [c_valid1]) ?_
    simp [c_valid1]
    refine callS_tree (within_ok x 99) ?_ ?_ ?_
    · rfl
    · rfl
    simpa using hK _ _ hi
  · simp [I]
  rintro ob cnt ⟨hi, hi2⟩
  rw [show (g.nodes.any fun x => !within x 99) = nBad g.nodes from rfl]
  cases h3 : nBad g.nodes
  case true => simp [h3, h1, h2, hi, gErr]
  simp [h3, h1, h2, hi, List.mapM_cons]
  refine containsFE_S (caps := [(0, 0)]) g.edges (fun e => !eOk g.nodes.length e) he I (fun x _ ob cnt hi K hK => ?_) ⟨hi, hi2⟩ ?_
  · obtain ⟨hi, hi2⟩ := hi
    refine callS_W (by kernel_rfl) Try.func118 k_valid2 (callable_of Try.func118 (by kernel_rfl)) (by simp [c_valid2]) ?_
    have hne : ¬ 0 = cnt 0 := by omega
    simp [c_valid2, edC, hi, hne]
    refine callS_tree (fits_ok x g.nodes.length (by omega)) ?_ ?_ ?_
    · rfl
    · rfl
    simp
    exact hK _ _ ⟨by simp [hne, hi], by simp⟩
  rintro ob cnt ⟨hi, hi2⟩
  rw [show (g.edges.any fun e => !eOk g.nodes.length e) = eBad g.nodes.length g.edges from rfl]
  cases h4 : eBad g.nodes.length g.edges <;> simp [h4, h3, h1, h2, gErr]

def c_rvalid : MFunc := ⟨46, [.tmp 2], .seq (.region [⟨some 1, .box 0 25 (.tmp 0), none⟩, ⟨some 2, .mv (.c (.one (.t (.int .i64 0)))), none⟩]) (.seq (.seq (.region [⟨some 5, .fieldA 0 (.tmp 1), none⟩, ⟨some 6, .load false 1 (.tmp 5), none⟩, ⟨some 7, .len (.tmp 6), none⟩, ⟨some 8, .bin .gtr (.tmp 7) (.c (.one (.t (.int .i64 40)))), none⟩, ⟨some 9, .mv (.tmp 8), none⟩, ⟨some 10, .fieldA 1 (.tmp 1), some (9, false)⟩, ⟨some 11, .load false 1 (.tmp 10), some (9, false)⟩, ⟨some 12, .len (.tmp 11), some (9, false)⟩, ⟨some 13, .bin .gtr (.tmp 12) (.c (.one (.t (.int .i64 80)))), some (9, false)⟩, ⟨some 14, .pick (.tmp 9) (.c (.one (.t (.bool true)))) (.tmp 13), none⟩]) (.cond (.tmp 14) (.seq (.region [⟨some 2, .mv (.c (.one (.t (.int .i64 3)))), none⟩]) .ret) .skip)) (.seq (.seq (.region [⟨some 3, .mv (.c (.one (.t (.int .i64 0)))), none⟩]) (.block 0 (.loop (.seq (.seq (.region [⟨some 15, .mv (.tmp 3), none⟩, ⟨some 16, .fieldA 0 (.tmp 1), none⟩, ⟨some 17, .load false 1 (.tmp 16), none⟩, ⟨some 18, .len (.tmp 17), none⟩, ⟨some 19, .bin .lss (.tmp 15) (.tmp 18), none⟩]) (.cond (.tmp 19) .skip (.exit 0))) (.seq (.block 1 (.seq (.region [⟨some 22, .fieldA 0 (.tmp 1), none⟩, ⟨some 23, .load false 1 (.tmp 22), none⟩, ⟨some 24, .mv (.tmp 3), none⟩, ⟨some 25, .idxA 1 (.tmp 23) (.tmp 24), none⟩, ⟨some 26, .load false 1 (.tmp 25), none⟩, ⟨some 27, .call (.c (.one (.fn 107 []))) 389 [.tmp 26], none⟩, ⟨some 28, .not (.tmp 27), none⟩]) (.cond (.tmp 28) (.seq (.region [⟨some 2, .mv (.c (.one (.t (.int .i64 6)))), none⟩]) .ret) .skip))) (.region [⟨some 20, .mv (.tmp 3), none⟩, ⟨some 21, .bin .add (.tmp 20) (.c (.one (.t (.int .i64 1)))), none⟩, ⟨some 3, .mv (.tmp 21), none⟩])))))) (.seq (.seq (.region [⟨some 4, .mv (.c (.one (.t (.int .i64 0)))), none⟩]) (.block 2 (.loop (.seq (.seq (.region [⟨some 29, .mv (.tmp 4), none⟩, ⟨some 30, .fieldA 1 (.tmp 1), none⟩, ⟨some 31, .load false 1 (.tmp 30), none⟩, ⟨some 32, .len (.tmp 31), none⟩, ⟨some 33, .bin .lss (.tmp 29) (.tmp 32), none⟩]) (.cond (.tmp 33) .skip (.exit 2))) (.seq (.block 3 (.seq (.draw [[], [0], [], [1, 2], [3], [], [5], [6], [4, 7], [8]] [⟨some 36, .fieldA 1 (.tmp 1), none⟩, ⟨some 37, .load false 1 (.tmp 36), none⟩, ⟨some 38, .mv (.tmp 4), none⟩, ⟨some 39, .idxA 3 (.tmp 37) (.tmp 38), none⟩, ⟨some 40, .load true 3 (.tmp 39), none⟩, ⟨some 41, .fieldA 0 (.tmp 1), none⟩, ⟨some 42, .load false 1 (.tmp 41), none⟩, ⟨some 43, .len (.tmp 42), none⟩, ⟨some 44, .call (.c (.one (.fn 108 []))) 712 [.tmp 40, .tmp 43], none⟩, ⟨some 45, .not (.tmp 44), none⟩]) (.cond (.tmp 45) (.seq (.region [⟨some 2, .mv (.c (.one (.t (.int .i64 6)))), none⟩]) .ret) .skip))) (.region [⟨some 34, .mv (.tmp 4), none⟩, ⟨some 35, .bin .add (.tmp 34) (.c (.one (.t (.int .i64 1)))), none⟩, ⟨some 4, .mv (.tmp 35), none⟩])))))) (.seq (.region [⟨some 2, .mv (.c (.one (.t (.int .i64 0)))), none⟩]) .ret))))⟩
theorem k_rvalid : cFn Try.prog Try.f77 = some c_rvalid := by kernel_rfl
theorem rvalid_ok (g : Gr) (hn : small g.nodes.length) (he : small g.edges.length) : CallOK Try.prog 77 [g.v] (.sv (false, [.int .i64 (gErr g)])) := by
  refine callOK_W (callS_W (by kernel_rfl) Try.func77 k_rvalid (callable_of Try.func77 (by kernel_rfl)) (by simp [c_rvalid]) ?_)
  by_cases h1 : (40 : Int) < g.nodes.length
  · simp [c_rvalid, h1, gErr]
  by_cases h2 : (80 : Int) < g.edges.length
  · simp [c_rvalid, h1, h2, gErr]
  simp [c_rvalid, h1, h2]
  refine loopW_count 3 g.nodes.length (fun k S => S.fr 1 = .one (.ptr (0, 0) 0) ∧ S.ob = upd noOb (0, 0) (some (bx 25 (g.v.2.map .t))) ∧ ∀ j, j < k → within (nth g.nodes j) 99 = true) hn ?_ ?_ ?_
  · simp
  · rintro k S hlt hw hc ⟨h0, hob, hp⟩
    simp [h0, hc, hlt, drop_nth hlt, hob]
    refine callS_tree (kind_ok (nth g.nodes k)) ?_ ?_ ?_
    · rfl
    · rfl
    cases he : within (nth g.nodes k) 99
    · have : nBad g.nodes = true := List.any_eq_true.2 ⟨_, nth_mem hlt, by simp [he]⟩
      simp [h0, hc, hob, he, this, h1, h2, gErr]
    · simp [h0, hc, hob, he, hw]
      intro j hj
      rcases Nat.lt_succ_iff_lt_or_eq.1 hj with hj | rfl
      · exact hp j hj
      · exact he
  · rintro S hc ⟨h0, hob, hp⟩
    have h3 : nBad g.nodes = false := by
      rw [nBad, List.any_eq_false]
      intro x hx
      obtain ⟨j, hj, rfl⟩ := mem_nth hx
      simp [hp j hj]
    simp [h0, hc, hob, h3]
    refine loopW_count 4 g.edges.length (fun k S => S.fr 1 = .one (.ptr (0, 0) 0) ∧ S.ob = upd noOb (0, 0) (some (bx 25 (g.v.2.map .t))) ∧ ∀ j, j < k → eOk g.nodes.length (eth g.edges j) = true) he ?_ ?_ ?_
    · simp [h0, hob]
    · rintro k S hlt hw hc ⟨h0, hob, hp⟩
      have hlt3 : k * 3 < g.edges.length * 3 := by omega
      simp [dw0, dw1, dw2, dw3, h0, hc, hlt, hlt3, drop_edL hlt, hob]
      refine dCall_ok (right_ok (eth g.edges k) g.nodes.length) ?_ ?_ ?_
      · rfl
      · rfl
      cases he : eOk g.nodes.length (eth g.edges k)
      · have : eBad g.nodes.length g.edges = true := List.any_eq_true.2 ⟨_, eth_mem hlt, by simp [he]⟩
        simp [dw0, dw1, dw2, dw3, h0, hc, hob, he, this, h1, h2, h3, gErr]
        rfl
      · simp [dw0, dw1, dw2, dw3, h0, hc, hob, he, hw]
        refine ⟨rfl, fun j hj => ?_⟩
        rcases Nat.lt_succ_iff_lt_or_eq.1 hj with hj | rfl
        · exact hp j hj
        · exact he
    · rintro S hc ⟨h0, hob, hp⟩
      have h4 : eBad g.nodes.length g.edges = false := by
        rw [eBad, List.any_eq_false]
        intro x hx
        obtain ⟨j, hj, rfl⟩ := mem_eth hx
        simp [hp j hj]
      simp [h0, hc, hob, h3, h4, h1, h2, gErr]
end Go.Proofs.Ythapbbpdcjmmfaa

/- Contracts: parts of graphs. -/
namespace Go.Proofs.Ythapbbpdcjmmfaa
open Abs
set_option linter.unusedSimpArgs false
set_option linter.unusedVariables false
attribute [local simp] rn0 rn1 rn2 rn3 rn4 rn5 rn6 rn7 evOp nests Arg.ev St.val St.set St.new sliceOf binInt2 binInt AV.cells rdAt St.live retOf resOf resAll treeOf treeCell treeCells treeTups untree frameOf TV.av TR.av ints edgs prs fillV splice intsOf trees V1.tree bx Gr.v Pa.v opRd opWr opNew opNewR opArgs argsRd argRd Arg.rd AV.refs V1.refs refsL dstL

def ascF (l : List Int) (n : Int) (i : Nat) : Int := if nth l i < 0 then 6 else if n ≤ nth l i then 6 else if 0 < i ∧ nth l i ≤ nth l (i - 1) then 12 else 0
/-- The error of an ascending list of numbers below n. -/
def ascErr (l : List Int) (n : Int) : Int := fe (ascF l n) l.length

theorem wrap_nat {j n : Nat} (h : j < n) (hn : small n) : IntKind.i64.wrap (j : Int) = j := by
  simp only [small] at hn
  rw [wrap64_id] <;> omega

theorem lt_succ_all {p : Nat → Prop} {k : Nat} (h : ∀ j, j < k → p j) (hk : p k) : ∀ j, j < k + 1 → p j := fun j hj => by
  rcases Nat.lt_succ_iff_lt_or_eq.1 hj with hj | rfl
  · exact h j hj
  · exact hk

theorem pred_of {k n : Nat} (h : 0 < k) (hk : k < n) (hn : small n) : ∃ j, j + 1 = k ∧ k - 1 = j ∧ j < n ∧ IntKind.i64.wrap ((k : Int) - 1) = j := by
  simp only [small] at hn
  exact ⟨k - 1, by omega, rfl, by omega, by rw [wrap64_id] <;> omega⟩

def c_list : MFunc := ⟨33, [.tmp 4], .seq (.region [⟨some 4, .mv (.c (.one (.t (.int .i64 0)))), none⟩]) (.seq (.seq (.region [⟨some 7, .mv (.tmp 0), none⟩, ⟨some 8, .len (.tmp 7), none⟩, ⟨some 9, .mv (.c (.one (.t (.int .i64 0)))), none⟩]) (.block 0 (.loop (.seq (.region [⟨some 10, .bin .lss (.tmp 9) (.tmp 8), none⟩]) (.seq (.cond (.tmp 10) .skip (.exit 0)) (.seq (.block 1 (.seq (.region [⟨some 11, .mv (.tmp 9), none⟩, ⟨some 12, .idxA 1 (.tmp 7) (.tmp 9), none⟩, ⟨some 13, .load false 1 (.tmp 12), none⟩, ⟨some 5, .mv (.tmp 11), none⟩, ⟨some 6, .mv (.tmp 13), none⟩]) (.seq (.seq (.region [⟨some 14, .mv (.tmp 6), none⟩, ⟨some 15, .bin .lss (.tmp 14) (.c (.one (.t (.int .i64 0)))), none⟩, ⟨some 16, .mv (.tmp 15), none⟩, ⟨some 17, .mv (.tmp 6), some (16, false)⟩, ⟨some 18, .mv (.tmp 1), some (16, false)⟩, ⟨some 19, .bin .geq (.tmp 17) (.tmp 18), some (16, false)⟩, ⟨some 20, .pick (.tmp 16) (.c (.one (.t (.bool true)))) (.tmp 19), none⟩]) (.cond (.tmp 20) (.seq (.region [⟨some 4, .mv (.c (.one (.t (.int .i64 6)))), none⟩]) .ret) .skip)) (.seq (.region [⟨some 21, .mv (.tmp 5), none⟩, ⟨some 22, .bin .gtr (.tmp 21) (.c (.one (.t (.int .i64 0)))), none⟩, ⟨some 23, .mv (.tmp 22), none⟩, ⟨some 24, .mv (.tmp 6), some (23, true)⟩, ⟨some 25, .mv (.tmp 0), some (23, true)⟩, ⟨some 26, .mv (.tmp 5), some (23, true)⟩, ⟨some 27, .bin .sub (.tmp 26) (.c (.one (.t (.int .i64 1)))), some (23, true)⟩, ⟨some 28, .idxA 1 (.tmp 25) (.tmp 27), some (23, true)⟩, ⟨some 29, .load false 1 (.tmp 28), some (23, true)⟩, ⟨some 30, .bin .leq (.tmp 24) (.tmp 29), some (23, true)⟩, ⟨some 31, .pick (.tmp 23) (.tmp 30) (.c (.one (.t (.bool false)))), none⟩]) (.cond (.tmp 31) (.seq (.region [⟨some 4, .mv (.c (.one (.t (.int .i64 12)))), none⟩]) .ret) .skip))))) (.region [⟨some 32, .bin .add (.tmp 9) (.c (.one (.t (.int .i64 1)))), none⟩, ⟨some 9, .mv (.tmp 32), none⟩]))))))) (.seq (.region [⟨some 4, .mv (.c (.one (.t (.int .i64 0)))), none⟩]) .ret))⟩
theorem k_list : cFn Try.prog Try.f113 = some c_list := by kernel_rfl
theorem list_ok (l : List Int) (n : Int) (hl : small l.length) : CallOK Try.prog 113 [(false, [ints l]), (false, [.int .i64 n])] (.sv (false, [.int .i64 (ascErr l n)])) := by
  refine callOK_W (callS_W (by kernel_rfl) Try.func113 k_list (callable_of Try.func113 (by kernel_rfl)) (by simp [c_list]) ?_)
  simp [c_list]
  refine loopW_count 9 l.length (fun k S => S.fr 0 = .one (.t (ints l)) ∧ S.fr 1 = .one (.t (.int .i64 n)) ∧ S.fr 7 = .one (.t (ints l)) ∧ S.fr 8 = .one (.t (.int .i64 l.length)) ∧ S.ob = noOb ∧ ∀ j, j < k → ascF l n j = 0) hl ?_ ?_ ?_
  · simp
  · rintro k S hlt hw hc ⟨h0, h1, h7, h8, hob, hp⟩
    have bad : ascF l n k ≠ 0 → ascErr l n = ascF l n k := fe_at hlt hp
    by_cases e1 : nth l k < 0
    · have := bad (by simp [ascF, e1])
      rw [show ascF l n k = 6 by simp [ascF, e1]] at this
      simp [h0, h1, h7, h8, hc, hlt, drop_nth hlt, hob, e1, this]
    by_cases e2 : n ≤ nth l k
    · have := bad (by simp [ascF, e1, e2])
      rw [show ascF l n k = 6 by simp [ascF, e1, e2]] at this
      simp [h0, h1, h7, h8, hc, hlt, drop_nth hlt, hob, e1, e2, this]
    by_cases e4 : 0 < k
    · obtain ⟨j, hj1, hj2, hj3, hj4⟩ := pred_of e4 hlt hl
      by_cases e3 : nth l k ≤ nth l j
      · have := bad (by simp [ascF, e1, e2, e3, e4, hj2])
        rw [show ascF l n k = 12 by simp [ascF, e1, e2, e3, e4, hj2]] at this
        simp [h0, h1, h7, h8, hc, hlt, drop_nth hlt, drop_nth hj3, hob, e1, e2, e3, e4, hj3, hj4, this]
      · simp [h0, h1, h7, h8, hc, hlt, drop_nth hlt, drop_nth hj3, hob, e1, e2, e3, e4, hj3, hj4, hw]
        exact lt_succ_all hp (by simp [ascF, e1, e2, e3, e4, hj2])
    · simp [h0, h1, h7, h8, hc, hlt, drop_nth hlt, hob, e1, e2, e4, hw]
      exact lt_succ_all hp (by simp [ascF, e1, e2, e4])
  · rintro S hc ⟨h0, h1, h7, h8, hob, hp⟩
    have : ascErr l n = 0 := fe_zero hp
    simp [h0, h1, h7, h8, hc, this]

def c_ascending : MFunc := ⟨39, [.tmp 4], .seq (.region [⟨some 4, .mv (.c (.one (.t (.int .i64 0)))), none⟩]) (.seq (.seq (.region [⟨some 5, .mv (.c (.one (.t (.int .i64 0)))), none⟩]) (.block 0 (.loop (.seq (.seq (.region [⟨some 6, .mv (.tmp 5), none⟩, ⟨some 7, .mv (.tmp 0), none⟩, ⟨some 8, .len (.tmp 7), none⟩, ⟨some 9, .bin .lss (.tmp 6) (.tmp 8), none⟩]) (.cond (.tmp 9) .skip (.exit 0))) (.seq (.block 1 (.seq (.seq (.region [⟨some 12, .mv (.tmp 0), none⟩, ⟨some 13, .mv (.tmp 5), none⟩, ⟨some 14, .idxA 1 (.tmp 12) (.tmp 13), none⟩, ⟨some 15, .load false 1 (.tmp 14), none⟩, ⟨some 16, .bin .lss (.tmp 15) (.c (.one (.t (.int .i64 0)))), none⟩, ⟨some 17, .mv (.tmp 16), none⟩, ⟨some 18, .mv (.tmp 0), some (17, false)⟩, ⟨some 19, .mv (.tmp 5), some (17, false)⟩, ⟨some 20, .idxA 1 (.tmp 18) (.tmp 19), some (17, false)⟩, ⟨some 21, .load false 1 (.tmp 20), some (17, false)⟩, ⟨some 22, .mv (.tmp 1), some (17, false)⟩, ⟨some 23, .bin .geq (.tmp 21) (.tmp 22), some (17, false)⟩, ⟨some 24, .pick (.tmp 17) (.c (.one (.t (.bool true)))) (.tmp 23), none⟩]) (.cond (.tmp 24) (.seq (.region [⟨some 4, .mv (.c (.one (.t (.int .i64 6)))), none⟩]) .ret) .skip)) (.seq (.draw [[], [0], [1], [2], [2], [3, 4, 2], [5, 2], [2], [2], [8, 2], [7, 9, 2], [10, 2], [6, 11, 2], [2, 12]] [⟨some 25, .mv (.tmp 5), none⟩, ⟨some 26, .bin .gtr (.tmp 25) (.c (.one (.t (.int .i64 0)))), none⟩, ⟨some 27, .mv (.tmp 26), none⟩, ⟨some 28, .mv (.tmp 0), some (27, true)⟩, ⟨some 29, .mv (.tmp 5), some (27, true)⟩, ⟨some 30, .idxA 1 (.tmp 28) (.tmp 29), some (27, true)⟩, ⟨some 31, .load false 1 (.tmp 30), some (27, true)⟩, ⟨some 32, .mv (.tmp 0), some (27, true)⟩, ⟨some 33, .mv (.tmp 5), some (27, true)⟩, ⟨some 34, .bin .sub (.tmp 33) (.c (.one (.t (.int .i64 1)))), some (27, true)⟩, ⟨some 35, .idxA 1 (.tmp 32) (.tmp 34), some (27, true)⟩, ⟨some 36, .load false 1 (.tmp 35), some (27, true)⟩, ⟨some 37, .bin .leq (.tmp 31) (.tmp 36), some (27, true)⟩, ⟨some 38, .pick (.tmp 27) (.tmp 37) (.c (.one (.t (.bool false)))), none⟩]) (.cond (.tmp 38) (.seq (.region [⟨some 4, .mv (.c (.one (.t (.int .i64 12)))), none⟩]) .ret) .skip)))) (.region [⟨some 10, .mv (.tmp 5), none⟩, ⟨some 11, .bin .add (.tmp 10) (.c (.one (.t (.int .i64 1)))), none⟩, ⟨some 5, .mv (.tmp 11), none⟩])))))) (.seq (.region [⟨some 4, .mv (.c (.one (.t (.int .i64 0)))), none⟩]) .ret))⟩
theorem k_ascending : cFn Try.prog Try.f126 = some c_ascending := by kernel_rfl
theorem ascending_ok (l : List Int) (n : Int) (hl : small l.length) : CallOK Try.prog 126 [(false, [ints l]), (false, [.int .i64 n])] (.sv (false, [.int .i64 (ascErr l n)])) := by
  refine callOK_W (callS_W (by kernel_rfl) Try.func126 k_ascending (callable_of Try.func126 (by kernel_rfl)) (by simp [c_ascending]) ?_)
  simp [c_ascending]
  refine loopW_count 5 l.length (fun k S => S.fr 0 = .one (.t (ints l)) ∧ S.fr 1 = .one (.t (.int .i64 n)) ∧ S.ob = noOb ∧ ∀ j, j < k → ascF l n j = 0) hl ?_ ?_ ?_
  · simp
  · rintro k S hlt hw hc ⟨h0, h1, hob, hp⟩
    have bad : ascF l n k ≠ 0 → ascErr l n = ascF l n k := fe_at hlt hp
    by_cases e1 : nth l k < 0
    · have := bad (by simp [ascF, e1])
      rw [show ascF l n k = 6 by simp [ascF, e1]] at this
      simp [dw0, dw1, dw2, dw3, h0, h1, hc, hlt, drop_nth hlt, hob, e1, this]
    by_cases e2 : n ≤ nth l k
    · have := bad (by simp [ascF, e1, e2])
      rw [show ascF l n k = 6 by simp [ascF, e1, e2]] at this
      simp [dw0, dw1, dw2, dw3, h0, h1, hc, hlt, drop_nth hlt, hob, e1, e2, this]
    by_cases e4 : 0 < k
    · obtain ⟨j, hj1, hj2, hj3, hj4⟩ := pred_of e4 hlt hl
      by_cases e3 : nth l k ≤ nth l j
      · have := bad (by simp [ascF, e1, e2, e3, e4, hj2])
        rw [show ascF l n k = 12 by simp [ascF, e1, e2, e3, e4, hj2]] at this
        simp [dw0, dw1, dw2, dw3, h0, h1, hc, hlt, drop_nth hlt, drop_nth hj3, hob, e1, e2, e3, e4, hj3, hj4, this]
        rfl
      · simp [dw0, dw1, dw2, dw3, h0, h1, hc, hlt, drop_nth hlt, drop_nth hj3, hob, e1, e2, e3, e4, hj3, hj4, hw]
        exact ⟨rfl, lt_succ_all hp (by simp [ascF, e1, e2, e3, e4, hj2])⟩
    · simp [dw0, dw1, dw2, dw3, h0, h1, hc, hlt, drop_nth hlt, hob, e1, e2, e4, hw]
      exact ⟨rfl, lt_succ_all hp (by simp [ascF, e1, e2, e4])⟩
  · rintro S hc ⟨h0, h1, hob, hp⟩
    have : ascErr l n = 0 := fe_zero hp
    simp [dw0, dw1, dw2, dw3, h0, h1, hc, this]

/-! ### Ascending lists -/
def Asc (l : List Int) : Prop := ∀ a b, a < b → b < l.length → nth l a < nth l b

theorem asc_of {l : List Int} {n : Int} (h : ascErr l n = 0) : Asc l ∧ ∀ x ∈ l, 0 ≤ x ∧ x < n := by
  have h := fe_eq h
  have h1 : ∀ j, j < l.length → 0 ≤ nth l j ∧ nth l j < n ∧ (0 < j → nth l (j - 1) < nth l j) := fun j hj => by
    have := h j hj
    simp only [ascF] at this
    split at this
    · cases this
    split at this
    · cases this
    split at this
    · cases this
    rename_i a b c
    exact ⟨by omega, by omega, fun h0 => by
      rcases Int.lt_or_le (nth l (j - 1)) (nth l j) with h | h
      · exact h
      · exact absurd ⟨h0, h⟩ c⟩
  refine ⟨fun a b hab hb => ?_, fun x hx => ?_⟩
  · induction b with
    | zero => omega
    | succ b ih =>
      have h2 := (h1 (b + 1) hb).2.2 (by omega)
      simp only [Nat.add_sub_cancel] at h2
      by_cases e : a = b
      · subst e; exact h2
      · have := ih (by omega) (by omega)
        omega
  · obtain ⟨k, hk, rfl⟩ := mem_nth hx
    exact ⟨(h1 k hk).1, (h1 k hk).2.1⟩

/-- How many elements are less: where a number would stand. -/
def bs (l : List Int) (x : Int) : Int := (l.countP (fun y => decide (y < x)) : Nat)

theorem count_at {x : Int} : ∀ {l : List Int} {i : Nat}, i ≤ l.length → (∀ k, k < i → nth l k < x) → (∀ k, i ≤ k → k < l.length → x ≤ nth l k) → l.countP (fun y => decide (y < x)) = i
  | [], 0, _, _, _ => rfl
  | [], i + 1, h, _, _ => absurd h (by simp)
  | y :: l, 0, _, _, h => by
    have h0 := h 0 (by omega) (by simp)
    have ih := count_at (x := x) (l := l) (i := 0) (by omega) (fun k hk => by omega) fun k _ hk => by
      have := h (k + 1) (by omega) (by simpa using hk)
      simpa [nth] using this
    simp [nth] at h0
    rw [List.countP_cons, ih]
    simp
    exact h0
  | y :: l, i + 1, hi, h1, h2 => by
    have h0 := h1 0 (by omega)
    have ih := count_at (x := x) (l := l) (i := i) (by simpa using hi) (fun k hk => by
      have := h1 (k + 1) (by omega)
      simpa [nth] using this) fun k hk hk' => by
      have := h2 (k + 1) (by omega) (by simpa using hk')
      simpa [nth] using this
    simp [nth] at h0
    rw [List.countP_cons, ih]
    simp [h0]

theorem asc_mem {l : List Int} {x : Int} {i : Nat} (h1 : ∀ k, k < i → nth l k < x) (h2 : ∀ k, i ≤ k → k < l.length → x ≤ nth l k) (ha : Asc l) : x ∈ l ↔ i < l.length ∧ nth l i = x := by
  constructor
  · intro hx
    obtain ⟨k, hk, he⟩ := mem_nth hx
    have h3 : i ≤ k := by
      rcases Nat.lt_or_ge k i with h | h
      · have := h1 k h
        omega
      · exact h
    refine ⟨by omega, ?_⟩
    by_cases e : i = k
    · rw [e]; exact he
    · have := ha i k (by omega) hk
      have := h2 i (by omega) (by omega)
      omega
  · rintro ⟨hi, rfl⟩
    exact nth_mem hi

def c_less : MFunc := ⟨17, [.tmp 4], .seq (.region [⟨some 4, .mv (.c (.one (.t (.bool false)))), none⟩]) (.seq (.region [⟨some 5, .mv (.tmp 0), none⟩, ⟨some 6, .call (.c (.one (.fn 120 []))) 65 [.tmp 5], none⟩, ⟨some 7, .mv (.tmp 6), none⟩, ⟨some 8, .mv (.tmp 1), some (7, true)⟩, ⟨some 9, .call (.c (.one (.fn 120 []))) 68 [.tmp 8], some (7, true)⟩, ⟨some 10, .not (.tmp 9), some (7, true)⟩, ⟨some 11, .pick (.tmp 7) (.tmp 10) (.c (.one (.t (.bool false)))), none⟩, ⟨some 12, .mv (.tmp 11), none⟩, ⟨some 13, .mv (.tmp 0), some (12, false)⟩, ⟨some 14, .mv (.tmp 1), some (12, false)⟩, ⟨some 15, .bin .lss (.tmp 13) (.tmp 14), some (12, false)⟩, ⟨some 16, .pick (.tmp 12) (.c (.one (.t (.bool true)))) (.tmp 15), none⟩, ⟨some 4, .mv (.tmp 16), none⟩]) .ret)⟩
theorem k_less : cFn Try.prog Try.f86 = some c_less := by kernel_rfl
def c_isNaN : MFunc := ⟨6, [.tmp 2], .seq (.region [⟨some 2, .mv (.c (.one (.t (.bool false)))), none⟩]) (.seq (.region [⟨some 3, .mv (.tmp 0), none⟩, ⟨some 4, .mv (.tmp 0), none⟩, ⟨some 5, .bin .neq (.tmp 3) (.tmp 4), none⟩, ⟨some 2, .mv (.tmp 5), none⟩]) .ret)⟩
theorem k_isNaN : cFn Try.prog Try.f87 = some c_isNaN := by kernel_rfl
def c_cisNaN : MFunc := ⟨6, [.tmp 2], .seq (.region [⟨some 2, .mv (.c (.one (.t (.bool false)))), none⟩]) (.seq (.region [⟨some 3, .mv (.tmp 0), none⟩, ⟨some 4, .mv (.tmp 0), none⟩, ⟨some 5, .bin .neq (.tmp 3) (.tmp 4), none⟩, ⟨some 2, .mv (.tmp 5), none⟩]) .ret)⟩
theorem k_cisNaN : cFn Try.prog Try.f120 = some c_cisNaN := by kernel_rfl
def c_bsearch : MFunc := ⟨54, [.tmp 4, .tmp 5], .seq (.region [⟨some 4, .mv (.c (.one (.t (.int .i64 0)))), none⟩, ⟨some 5, .mv (.c (.one (.t (.bool false)))), none⟩]) (.seq (.region [⟨some 10, .mv (.tmp 0), none⟩, ⟨some 11, .len (.tmp 10), none⟩, ⟨some 6, .mv (.tmp 11), none⟩]) (.seq (.region [⟨some 12, .mv (.tmp 6), none⟩, ⟨some 7, .mv (.c (.one (.t (.int .i64 0)))), none⟩, ⟨some 8, .mv (.tmp 12), none⟩]) (.seq (.block 0 (.loop (.seq (.seq (.region [⟨some 13, .mv (.tmp 7), none⟩, ⟨some 14, .mv (.tmp 8), none⟩, ⟨some 15, .bin .lss (.tmp 13) (.tmp 14), none⟩]) (.cond (.tmp 15) .skip (.exit 0))) (.block 1 (.seq (.region [⟨some 16, .mv (.tmp 7), none⟩, ⟨some 17, .mv (.tmp 8), none⟩, ⟨some 18, .bin .add (.tmp 16) (.tmp 17), none⟩, ⟨some 19, .conv .u64 (.tmp 18), none⟩, ⟨some 20, .bin .shr (.tmp 19) (.c (.one (.t (.int .u64 1)))), none⟩, ⟨some 21, .conv .i64 (.tmp 20), none⟩, ⟨some 9, .mv (.tmp 21), none⟩]) (.seq (.region [⟨some 22, .mv (.tmp 0), none⟩, ⟨some 23, .mv (.tmp 9), none⟩, ⟨some 24, .idxA 1 (.tmp 22) (.tmp 23), none⟩, ⟨some 25, .load false 1 (.tmp 24), none⟩, ⟨some 26, .mv (.tmp 1), none⟩, ⟨some 27, .call (.c (.one (.fn 86 []))) 325 [.tmp 25, .tmp 26], none⟩]) (.cond (.tmp 27) (.region [⟨some 28, .mv (.tmp 9), none⟩, ⟨some 29, .bin .add (.tmp 28) (.c (.one (.t (.int .i64 1)))), none⟩, ⟨some 7, .mv (.tmp 29), none⟩]) (.region [⟨some 30, .mv (.tmp 9), none⟩, ⟨some 8, .mv (.tmp 30), none⟩])))))))) (.seq (.region [⟨some 31, .mv (.tmp 7), none⟩, ⟨some 32, .mv (.tmp 7), none⟩, ⟨some 33, .mv (.tmp 6), none⟩, ⟨some 34, .bin .lss (.tmp 32) (.tmp 33), none⟩, ⟨some 35, .mv (.tmp 34), none⟩, ⟨some 36, .mv (.tmp 0), some (35, true)⟩, ⟨some 37, .mv (.tmp 7), some (35, true)⟩, ⟨some 38, .idxA 1 (.tmp 36) (.tmp 37), some (35, true)⟩, ⟨some 39, .load false 1 (.tmp 38), some (35, true)⟩, ⟨some 40, .mv (.tmp 1), some (35, true)⟩, ⟨some 41, .bin .eql (.tmp 39) (.tmp 40), some (35, true)⟩, ⟨some 42, .mv (.tmp 41), some (35, true)⟩, ⟨some 43, .mv (.tmp 0), some (42, false)⟩, ⟨some 44, .mv (.tmp 7), some (42, false)⟩, ⟨some 45, .idxA 1 (.tmp 43) (.tmp 44), some (42, false)⟩, ⟨some 46, .load false 1 (.tmp 45), some (42, false)⟩, ⟨some 47, .call (.c (.one (.fn 87 []))) 528 [.tmp 46], some (42, false)⟩, ⟨some 48, .mv (.tmp 47), some (42, false)⟩, ⟨some 49, .mv (.tmp 1), some (48, true)⟩, ⟨some 50, .call (.c (.one (.fn 87 []))) 531 [.tmp 49], some (48, true)⟩, ⟨some 51, .pick (.tmp 48) (.tmp 50) (.c (.one (.t (.bool false)))), some (42, false)⟩, ⟨some 52, .pick (.tmp 42) (.c (.one (.t (.bool true)))) (.tmp 51), some (35, true)⟩, ⟨some 53, .pick (.tmp 35) (.tmp 52) (.c (.one (.t (.bool false)))), none⟩, ⟨some 4, .mv (.tmp 31), none⟩, ⟨some 5, .mv (.tmp 53), none⟩]) .ret))))⟩
theorem k_bsearch : cFn Try.prog Try.f64 = some c_bsearch := by kernel_rfl
theorem isNaN_ok (x : Int) : CallOK Try.prog 87 [(false, [.int .i64 x])] (.sv (false, [.bool false])) := by
  refine callOK_W (callS_W (by kernel_rfl) Try.func87 k_isNaN (callable_of Try.func87 (by kernel_rfl)) (by simp [c_isNaN]) ?_)
  simp [c_isNaN]
theorem cisNaN_ok (x : Int) : CallOK Try.prog 120 [(false, [.int .i64 x])] (.sv (false, [.bool false])) := by
  refine callOK_W (callS_W (by kernel_rfl) Try.func120 k_cisNaN (callable_of Try.func120 (by kernel_rfl)) (by simp [c_cisNaN]) ?_)
  simp [c_cisNaN]
theorem less_ok (x y : Int) : CallOK Try.prog 86 [(false, [.int .i64 x]), (false, [.int .i64 y])] (.sv (false, [.bool (decide (x < y))])) := by
  refine callOK_W (callS_W (by kernel_rfl) Try.func86 k_less (callable_of Try.func86 (by kernel_rfl)) (by simp [c_less]) ?_)
  simp [c_less]
  refine callS_tree (cisNaN_ok x) ?_ ?_ ?_
  · rfl
  · rfl
  simp

theorem bsearch_ok (l : List Int) (x : Int) (hl : l.length ≤ 1000000) (ha : Asc l) : CallOK Try.prog 64 [(false, [ints l]), (false, [.int .i64 x])] (.tup [(false, [.int .i64 (bs l x)]), (false, [.bool (decide (x ∈ l))])]) := by
  refine callOK_W (callS_W (by kernel_rfl) Try.func64 k_bsearch (callable_of Try.func64 (by kernel_rfl)) (by simp [c_bsearch]) ?_)
  simp [c_bsearch]
  refine loopW_intro (fun S => ∃ i j : Nat, i ≤ j ∧ j ≤ l.length ∧ S.fr 0 = .one (.t (ints l)) ∧ S.fr 1 = .one (.t (.int .i64 x)) ∧ S.fr 6 = .one (.t (.int .i64 l.length)) ∧ S.fr 7 = .one (.t (.int .i64 i)) ∧ S.fr 8 = .one (.t (.int .i64 j)) ∧ S.ob = noOb ∧
      (∀ k, k < i → nth l k < x) ∧ ∀ k, j ≤ k → k < l.length → x ≤ nth l k)
    (fun S => match S.fr 7, S.fr 8 with | .one (.t (.int _ i)), .one (.t (.int _ j)) => (j - i).toNat | _, _ => 0) ?_ ?_
  · exact ⟨0, l.length, by omega, by omega, by simp, by simp, by simp, by simp, by simp, by simp, fun k hk => by omega, fun k h1 h2 => by omega⟩
  · rintro S ⟨i, j, hij, hj, h0, h1, h6, h7, h8, hob, hp, hq⟩
    by_cases hlt : i < j
    · obtain ⟨h, hh⟩ : ∃ h : Nat, h = (i + j) / 2 := ⟨_, rfl⟩
      have hh1 : i ≤ h := by omega
      have hh2 : h < j := by omega
      have hh3 : h < l.length := by omega
      have w1 : IntKind.i64.wrap ((i : Int) + j) = (i : Int) + j := by rw [wrap64_id] <;> omega
      have w2 : IntKind.u64.wrap ((i : Int) + j) = (i : Int) + j := by
        simp [IntKind.wrap, IntKind.bits, IntKind.signed]
        omega
      have w3 : ((i : Int) + j).fdiv 2 = h := by
        rw [Int.fdiv_eq_ediv_of_nonneg _ (by omega)]
        omega
      have w4 : IntKind.i64.wrap (h : Int) = h := by rw [wrap64_id] <;> omega
      have w5 : IntKind.i64.wrap ((h : Int) + 1) = ((h + 1 : Nat) : Int) := by rw [wrap64_id] <;> omega
      simp [h0, h1, h6, h7, h8, hob, hlt, w1, w2, w3, w4, IntKind.bits, hh3, drop_nth hh3]
      refine callS_tree (less_ok (nth l h) x) ?_ ?_ ?_
      · rfl
      · rfl
      have mono : ∀ k, k < l.length → (k ≤ h → nth l k ≤ nth l h) ∧ (h ≤ k → nth l h ≤ nth l k) := fun k hk => ⟨fun e => by
        rcases Nat.lt_or_eq_of_le e with e | rfl
        · exact Int.le_of_lt (ha k h e hh3)
        · exact Int.le_refl _, fun e => by
        rcases Nat.lt_or_eq_of_le e with e | rfl
        · exact Int.le_of_lt (ha h k e hk)
        · exact Int.le_refl _⟩
      by_cases e : nth l h < x
      · simp [h0, h1, h6, h7, h8, hob, hlt, e, w5]
        refine ⟨⟨h + 1, j, by omega, hj, by simp, rfl, fun k hk => ?_, hq⟩, by omega⟩
        have := (mono k (by omega)).1 (by omega)
        omega
      · simp [h0, h1, h6, h7, h8, hob, hlt, e]
        refine ⟨⟨i, h, hh1, by omega, rfl, rfl, hp, fun k h1 h2 => ?_⟩, by omega⟩
        have := (mono k h2).2 h1
        omega
    · have : i = j := by omega
      subst this
      have hc : bs l x = i := by rw [bs, count_at hj hp hq]
      have hm := asc_mem hp hq ha
      by_cases e1 : i < l.length
      · by_cases e2 : nth l i = x
        · have : x ∈ l := hm.2 ⟨e1, e2⟩
          simp [h0, h1, h6, h7, h8, hob, e1, e2, drop_nth e1, hc, this]
        · have : x ∉ l := fun h => e2 (hm.1 h).2
          simp [h0, h1, h6, h7, h8, hob, e1, e2, drop_nth e1, hc, this]
          refine callS_tree (isNaN_ok (nth l i)) ?_ ?_ ?_
          · rfl
          · rfl
          simp [h0, h1, h6, h7, h8, hob, e1, e2, drop_nth e1, hc, this]
      · have : x ∉ l := fun h => e1 (hm.1 h).1
        simp [h0, h1, h6, h7, h8, hob, e1, hc, this]
end Go.Proofs.Ythapbbpdcjmmfaa

/- Contracts: parts of graphs (2). -/
namespace Go.Proofs.Ythapbbpdcjmmfaa
open Abs
set_option linter.unusedSimpArgs false
set_option linter.unusedVariables false
attribute [local simp] rn0 rn1 rn2 rn3 rn4 rn5 rn6 rn7 evOp nests Arg.ev St.val St.set St.new sliceOf binInt2 binInt AV.cells rdAt St.live retOf resOf resAll treeOf treeCell treeCells treeTups untree frameOf TV.av TR.av ints edgs prs fillV splice intsOf trees V1.tree bx Gr.v Pa.v opRd opWr opNew opNewR opArgs argsRd argRd Arg.rd AV.refs V1.refs refsL dstL

abbrev tiny (n : Nat) : Prop := n ≤ 1000000
theorem tiny.small {n : Nat} (h : tiny n) : small n := Nat.le_trans h (by decide)

def c_has : MFunc := ⟨14, [.tmp 4], .seq (.region [⟨some 4, .mv (.c (.one (.t (.bool false)))), none⟩]) (.seq (.region [⟨some 8, .mv (.tmp 0), none⟩, ⟨some 9, .mv (.tmp 1), none⟩, ⟨some 10, .call (.c (.one (.fn 64 []))) 66 [.tmp 8, .tmp 9], none⟩, ⟨some 7, .mv (.tmp 10), none⟩, ⟨some 11, .extract (.tmp 7) 0, none⟩, ⟨some 12, .extract (.tmp 7) 1, none⟩, ⟨some 5, .mv (.tmp 11), none⟩, ⟨some 6, .mv (.tmp 12), none⟩]) (.seq (.region [⟨some 13, .mv (.tmp 6), none⟩, ⟨some 4, .mv (.tmp 13), none⟩]) .ret))⟩
theorem k_has : cFn Try.prog Try.f114 = some c_has := by kernel_rfl
theorem has_ok (l : List Int) (n : Int) (hl : tiny l.length) (ha : Asc l) : CallOK Try.prog 114 [(false, [ints l]), (false, [.int .i64 n])] (.sv (false, [.bool (decide (n ∈ l))])) := by
  refine callOK_W (callS_W (by kernel_rfl) Try.func114 k_has (callable_of Try.func114 (by kernel_rfl)) (by simp [c_has]) ?_)
  simp [c_has]
  refine callS_tree (bsearch_ok l n hl ha) ?_ ?_ ?_
  · rfl
  · rfl
  simp

def danF (g : Gr) (p : Pa) (i : Nat) : Int := if (eth g.edges (nth p.edges i).toNat).f ∈ p.nodes ∧ (eth g.edges (nth p.edges i).toNat).g ∈ p.nodes then 0 else 14
/-- The error of a part of a valid graph. -/
def partErr (g : Gr) (p : Pa) : Int :=
  if ascErr p.nodes g.nodes.length = 0 then if ascErr p.edges g.edges.length = 0 then fe (danF g p) p.edges.length else ascErr p.edges g.edges.length else ascErr p.nodes g.nodes.length

def c_part : MFunc := ⟨57, [.tmp 4], .seq (.region [⟨some 2, .box 0 25 (.tmp 0), none⟩, ⟨some 3, .box 1 27 (.tmp 1), none⟩, ⟨some 4, .mv (.c (.one (.t (.int .i64 0)))), none⟩]) (.seq (.seq (.region [⟨some 9, .fieldA 0 (.tmp 3), none⟩, ⟨some 10, .load false 1 (.tmp 9), none⟩, ⟨some 11, .fieldA 0 (.tmp 2), none⟩, ⟨some 12, .load false 1 (.tmp 11), none⟩, ⟨some 13, .len (.tmp 12), none⟩, ⟨some 14, .call (.c (.one (.fn 113 []))) 69 [.tmp 10, .tmp 13], none⟩, ⟨some 5, .mv (.tmp 14), none⟩]) (.seq (.region [⟨some 15, .mv (.tmp 5), none⟩, ⟨some 16, .bin .neq (.tmp 15) (.c (.one (.t (.int .i64 0)))), none⟩]) (.cond (.tmp 16) (.seq (.region [⟨some 17, .mv (.tmp 5), none⟩, ⟨some 4, .mv (.tmp 17), none⟩]) .ret) .skip))) (.seq (.seq (.region [⟨some 18, .fieldA 1 (.tmp 3), none⟩, ⟨some 19, .load false 1 (.tmp 18), none⟩, ⟨some 20, .fieldA 1 (.tmp 2), none⟩, ⟨some 21, .load false 1 (.tmp 20), none⟩, ⟨some 22, .len (.tmp 21), none⟩, ⟨some 23, .call (.c (.one (.fn 113 []))) 261 [.tmp 19, .tmp 22], none⟩, ⟨some 6, .mv (.tmp 23), none⟩]) (.seq (.region [⟨some 24, .mv (.tmp 6), none⟩, ⟨some 25, .bin .neq (.tmp 24) (.c (.one (.t (.int .i64 0)))), none⟩]) (.cond (.tmp 25) (.seq (.region [⟨some 26, .mv (.tmp 6), none⟩, ⟨some 4, .mv (.tmp 26), none⟩]) .ret) .skip))) (.seq (.seq (.region [⟨some 27, .fieldA 1 (.tmp 3), none⟩, ⟨some 28, .load false 1 (.tmp 27), none⟩, ⟨some 29, .len (.tmp 28), none⟩, ⟨some 30, .mv (.c (.one (.t (.int .i64 0)))), none⟩]) (.block 0 (.loop (.seq (.region [⟨some 31, .bin .lss (.tmp 30) (.tmp 29), none⟩]) (.seq (.cond (.tmp 31) .skip (.exit 0)) (.seq (.block 1 (.seq (.region [⟨some 32, .idxA 1 (.tmp 28) (.tmp 30), none⟩, ⟨some 33, .load false 1 (.tmp 32), none⟩, ⟨some 8, .mv (.tmp 33), none⟩]) (.seq (.draw [[], [0], [], [2], [], [3, 4], [5], [6], [1, 7], [8], [9, 8], [10], [11, 10], [10], [13, 10], [10], [14, 15, 10], [16, 10], [17, 10], [12, 18, 10, 10], [19, 10], [10, 20]] [⟨some 34, .fieldA 0 (.tmp 3), none⟩, ⟨some 35, .load false 1 (.tmp 34), none⟩, ⟨some 36, .fieldA 1 (.tmp 2), none⟩, ⟨some 37, .load false 1 (.tmp 36), none⟩, ⟨some 38, .mv (.tmp 8), none⟩, ⟨some 39, .idxA 3 (.tmp 37) (.tmp 38), none⟩, ⟨some 40, .fieldA 1 (.tmp 39), none⟩, ⟨some 41, .load false 1 (.tmp 40), none⟩, ⟨some 42, .call (.c (.one (.fn 114 []))) 648 [.tmp 35, .tmp 41], none⟩, ⟨some 43, .not (.tmp 42), none⟩, ⟨some 44, .mv (.tmp 43), none⟩, ⟨some 45, .fieldA 0 (.tmp 3), some (44, false)⟩, ⟨some 46, .load false 1 (.tmp 45), some (44, false)⟩, ⟨some 47, .fieldA 1 (.tmp 2), some (44, false)⟩, ⟨some 48, .load false 1 (.tmp 47), some (44, false)⟩, ⟨some 49, .mv (.tmp 8), some (44, false)⟩, ⟨some 50, .idxA 3 (.tmp 48) (.tmp 49), some (44, false)⟩, ⟨some 51, .fieldA 2 (.tmp 50), some (44, false)⟩, ⟨some 52, .load false 1 (.tmp 51), some (44, false)⟩, ⟨some 53, .call (.c (.one (.fn 114 []))) 659 [.tmp 46, .tmp 52], some (44, false)⟩, ⟨some 54, .not (.tmp 53), some (44, false)⟩, ⟨some 55, .pick (.tmp 44) (.c (.one (.t (.bool true)))) (.tmp 54), none⟩]) (.cond (.tmp 55) (.seq (.region [⟨some 4, .mv (.c (.one (.t (.int .i64 14)))), none⟩]) .ret) .skip)))) (.region [⟨some 56, .bin .add (.tmp 30) (.c (.one (.t (.int .i64 1)))), none⟩, ⟨some 30, .mv (.tmp 56), none⟩]))))))) (.seq (.region [⟨some 4, .mv (.c (.one (.t (.int .i64 0)))), none⟩]) .ret))))⟩
theorem k_part : cFn Try.prog Try.f81 = some c_part := by kernel_rfl
theorem part_ok (g : Gr) (p : Pa) (hp1 : tiny p.nodes.length) (hp2 : tiny p.edges.length) : CallOK Try.prog 81 [g.v, p.v] (.sv (false, [.int .i64 (partErr g p)])) := by
  refine callOK_W (callS_W (by kernel_rfl) Try.func81 k_part (callable_of Try.func81 (by kernel_rfl)) (by simp [c_part]) ?_)
  simp [c_part]
  refine callS_tree (list_ok p.nodes g.nodes.length hp1.small) ?_ ?_ ?_
  · rfl
  · rfl
  by_cases h1 : ascErr p.nodes g.nodes.length = 0
  case neg =>
    have e : partErr g p = ascErr p.nodes g.nodes.length := by simp [partErr, h1]
    simp [h1, e]
  simp [h1]
  refine callS_tree (list_ok p.edges g.edges.length hp2.small) ?_ ?_ ?_
  · rfl
  · rfl
  by_cases h2 : ascErr p.edges g.edges.length = 0
  case neg =>
    have e : partErr g p = ascErr p.edges g.edges.length := by simp [partErr, h1, h2]
    simp [h2, e]
  have e : partErr g p = fe (danF g p) p.edges.length := by simp [partErr, h1, h2]
  rw [e]
  obtain ⟨ha1, hr1⟩ := asc_of h1
  obtain ⟨ha2, hr2⟩ := asc_of h2
  simp [h2]
  refine loopW_count 30 p.edges.length (fun k S => S.fr 2 = .one (.ptr (0, 0) 0) ∧ S.fr 3 = .one (.ptr (1, 0) 0) ∧ S.fr 28 = .one (.t (ints p.edges)) ∧ S.fr 29 = .one (.t (.int .i64 p.edges.length)) ∧
    S.ob = upd (upd noOb (0, 0) (some (bx 25 (g.v.2.map .t)))) (1, 0) (some (bx 27 (p.v.2.map .t))) ∧ ∀ j, j < k → danF g p j = 0) hp2.small ?_ ?_ ?_
  · simp
  · rintro k S hlt hw hc ⟨f2, f3, f28, f29, hob, hp⟩
    have bad : danF g p k ≠ 0 → fe (danF g p) p.edges.length = danF g p k := fe_at hlt hp
    obtain ⟨q1, q2⟩ := hr2 _ (nth_mem hlt)
    obtain ⟨x, hx⟩ := Int.eq_ofNat_of_zero_le q1
    have hx2 : x < g.edges.length := by omega
    have hx3 : x * 3 < g.edges.length * 3 := by omega
    simp [dw0, dw1, dw2, dw3, f2, f3, f28, f29, hob, hc, hlt, hx, hx2, hx3, drop_nth hlt, drop_edL hx2]
    refine dCall_ok (has_ok p.nodes (eth g.edges x).f hp1 ha1) ?_ ?_ ?_
    · rfl
    · rfl
    by_cases e1 : (eth g.edges x).f ∈ p.nodes
    case neg =>
      have := bad (by simp [danF, hx, e1])
      rw [show danF g p k = 14 by simp [danF, hx, e1]] at this
      simp [dw0, dw1, dw2, dw3, f2, f3, f28, f29, hob, hc, hlt, hx, hx2, hx3, drop_edL hx2, e1, this]
      rfl
    simp [dw0, dw1, dw2, dw3, f2, f3, f28, f29, hob, hc, hlt, hx, hx2, hx3, drop_edL hx2, e1]
    refine dCall_ok (has_ok p.nodes (eth g.edges x).g hp1 ha1) ?_ ?_ ?_
    · rfl
    · rfl
    by_cases e2 : (eth g.edges x).g ∈ p.nodes
    case neg =>
      have := bad (by simp [danF, hx, e1, e2])
      rw [show danF g p k = 14 by simp [danF, hx, e1, e2]] at this
      simp [dw0, dw1, dw2, dw3, f2, f3, f28, f29, hob, hc, hlt, hx, hx2, hx3, drop_edL hx2, e1, e2, this]
      rfl
    simp [dw0, dw1, dw2, dw3, f2, f3, f28, f29, hob, hc, hlt, hx, hx2, hx3, drop_edL hx2, e1, e2, hw]
    exact ⟨rfl, lt_succ_all hp (by simp [danF, hx, e1, e2])⟩
  · rintro S hc ⟨f2, f3, f28, f29, hob, hp⟩
    have : fe (danF g p) p.edges.length = 0 := fe_zero hp
    simp [f2, f3, f28, f29, hob, hc, this]

def c_right7 : MFunc := ⟨57, [.tmp 4], .seq (.region [⟨some 2, .box 0 25 (.tmp 0), none⟩, ⟨some 3, .box 1 27 (.tmp 1), none⟩, ⟨some 4, .mv (.c (.one (.t (.int .i64 0)))), none⟩]) (.seq (.seq (.region [⟨some 9, .fieldA 0 (.tmp 3), none⟩, ⟨some 10, .load false 1 (.tmp 9), none⟩, ⟨some 11, .fieldA 0 (.tmp 2), none⟩, ⟨some 12, .load false 1 (.tmp 11), none⟩, ⟨some 13, .len (.tmp 12), none⟩, ⟨some 14, .call (.c (.one (.fn 126 []))) 69 [.tmp 10, .tmp 13], none⟩, ⟨some 5, .mv (.tmp 14), none⟩]) (.seq (.region [⟨some 15, .mv (.tmp 5), none⟩, ⟨some 16, .bin .neq (.tmp 15) (.c (.one (.t (.int .i64 0)))), none⟩]) (.cond (.tmp 16) (.seq (.region [⟨some 17, .mv (.tmp 5), none⟩, ⟨some 4, .mv (.tmp 17), none⟩]) .ret) .skip))) (.seq (.seq (.region [⟨some 18, .fieldA 1 (.tmp 3), none⟩, ⟨some 19, .load false 1 (.tmp 18), none⟩, ⟨some 20, .fieldA 1 (.tmp 2), none⟩, ⟨some 21, .load false 1 (.tmp 20), none⟩, ⟨some 22, .len (.tmp 21), none⟩, ⟨some 23, .call (.c (.one (.fn 126 []))) 261 [.tmp 19, .tmp 22], none⟩, ⟨some 6, .mv (.tmp 23), none⟩]) (.seq (.region [⟨some 24, .mv (.tmp 6), none⟩, ⟨some 25, .bin .neq (.tmp 24) (.c (.one (.t (.int .i64 0)))), none⟩]) (.cond (.tmp 25) (.seq (.region [⟨some 26, .mv (.tmp 6), none⟩, ⟨some 4, .mv (.tmp 26), none⟩]) .ret) .skip))) (.seq (.seq (.region [⟨some 7, .mv (.c (.one (.t (.int .i64 0)))), none⟩]) (.block 0 (.loop (.seq (.seq (.region [⟨some 27, .mv (.tmp 7), none⟩, ⟨some 28, .fieldA 1 (.tmp 3), none⟩, ⟨some 29, .load false 1 (.tmp 28), none⟩, ⟨some 30, .len (.tmp 29), none⟩, ⟨some 31, .bin .lss (.tmp 27) (.tmp 30), none⟩]) (.cond (.tmp 31) .skip (.exit 0))) (.seq (.block 1 (.seq (.draw [[], [0], [], [2], [], [3, 4], [5], [1, 6], [7], [], [9, 8, 0, 1, 2, 3, 4, 5, 6, 7, 8, 9]] [⟨some 34, .fieldA 1 (.tmp 2), none⟩, ⟨some 35, .load false 1 (.tmp 34), none⟩, ⟨some 36, .fieldA 1 (.tmp 3), none⟩, ⟨some 37, .load false 1 (.tmp 36), none⟩, ⟨some 38, .mv (.tmp 7), none⟩, ⟨some 39, .idxA 1 (.tmp 37) (.tmp 38), none⟩, ⟨some 40, .load false 1 (.tmp 39), none⟩, ⟨some 41, .idxA 3 (.tmp 35) (.tmp 40), none⟩, ⟨some 42, .load true 3 (.tmp 41), none⟩, ⟨some 8, .alloc 649 73 [.t (.int .i64 0), .t (.int .i64 0), .t (.int .i64 0)], none⟩, ⟨none, .store 3 (.tmp 8) (.tmp 42), none⟩]) (.seq (.region [⟨some 43, .fieldA 0 (.tmp 3), none⟩, ⟨some 44, .load false 1 (.tmp 43), none⟩, ⟨some 45, .fieldA 1 (.tmp 8), none⟩, ⟨some 46, .load false 1 (.tmp 45), none⟩, ⟨some 47, .call (.c (.one (.fn 84 []))) 708 [.tmp 44, .tmp 46], none⟩, ⟨some 48, .not (.tmp 47), none⟩, ⟨some 49, .mv (.tmp 48), none⟩, ⟨some 50, .fieldA 0 (.tmp 3), some (49, false)⟩, ⟨some 51, .load false 1 (.tmp 50), some (49, false)⟩, ⟨some 52, .fieldA 2 (.tmp 8), some (49, false)⟩, ⟨some 53, .load false 1 (.tmp 52), some (49, false)⟩, ⟨some 54, .call (.c (.one (.fn 84 []))) 715 [.tmp 51, .tmp 53], some (49, false)⟩, ⟨some 55, .not (.tmp 54), some (49, false)⟩, ⟨some 56, .pick (.tmp 49) (.c (.one (.t (.bool true)))) (.tmp 55), none⟩]) (.cond (.tmp 56) (.seq (.region [⟨some 4, .mv (.c (.one (.t (.int .i64 14)))), none⟩]) .ret) .skip)))) (.region [⟨some 32, .mv (.tmp 7), none⟩, ⟨some 33, .bin .add (.tmp 32) (.c (.one (.t (.int .i64 1)))), none⟩, ⟨some 7, .mv (.tmp 33), none⟩])))))) (.seq (.region [⟨some 4, .mv (.c (.one (.t (.int .i64 0)))), none⟩]) .ret))))⟩
theorem k_right7 : cFn Try.prog Try.f96 = some c_right7 := by kernel_rfl
theorem right7_ok (g : Gr) (p : Pa) (hp1 : tiny p.nodes.length) (hp2 : tiny p.edges.length) : CallOK Try.prog 96 [g.v, p.v] (.sv (false, [.int .i64 (partErr g p)])) := by
  refine callOK_W (callS_W (by kernel_rfl) Try.func96 k_right7 (callable_of Try.func96 (by kernel_rfl)) (by simp [c_right7]) ?_)
  simp [c_right7]
  refine callS_tree (ascending_ok p.nodes g.nodes.length hp1.small) ?_ ?_ ?_
  · rfl
  · rfl
  by_cases h1 : ascErr p.nodes g.nodes.length = 0
  case neg =>
    have e : partErr g p = ascErr p.nodes g.nodes.length := by simp [partErr, h1]
    simp [h1, e]
  simp [h1]
  refine callS_tree (ascending_ok p.edges g.edges.length hp2.small) ?_ ?_ ?_
  · rfl
  · rfl
  by_cases h2 : ascErr p.edges g.edges.length = 0
  case neg =>
    have e : partErr g p = ascErr p.edges g.edges.length := by simp [partErr, h1, h2]
    simp [h2, e]
  have e : partErr g p = fe (danF g p) p.edges.length := by simp [partErr, h1, h2]
  rw [e]
  obtain ⟨ha1, hr1⟩ := asc_of h1
  obtain ⟨ha2, hr2⟩ := asc_of h2
  simp [h2]
  refine loopW_count 7 p.edges.length (fun k S => S.fr 2 = .one (.ptr (0, 0) 0) ∧ S.fr 3 = .one (.ptr (1, 0) 0) ∧
    S.ob (0, 0) = some (bx 25 (g.v.2.map .t)) ∧ S.ob (1, 0) = some (bx 27 (p.v.2.map .t)) ∧ ∀ j, j < k → danF g p j = 0) hp2.small ?_ ?_ ?_
  · simp
  · rintro k S hlt hw hc ⟨f2, f3, hob, hob1, hp⟩
    have bad : danF g p k ≠ 0 → fe (danF g p) p.edges.length = danF g p k := fe_at hlt hp
    obtain ⟨q1, q2⟩ := hr2 _ (nth_mem hlt)
    obtain ⟨x, hx⟩ := Int.eq_ofNat_of_zero_le q1
    have hx2 : x < g.edges.length := by omega
    have hx3 : x * 3 < g.edges.length * 3 := by omega
    simp [dw0, dw1, dw2, dw3, f2, f3, hob, hob1, hc, hlt, hx, hx2, hx3, drop_nth hlt, drop_edL hx2]
    refine ⟨rfl, ?_⟩
    refine callS_tree (has07_ok p.nodes (eth g.edges x).f hp1.small) ?_ ?_ ?_
    · simp [argTrees, argTree]
    · rfl
    by_cases e1 : (eth g.edges x).f ∈ p.nodes
    case neg =>
      have := bad (by simp [danF, hx, e1])
      rw [show danF g p k = 14 by simp [danF, hx, e1]] at this
      simp [f2, f3, hob, hob1, hc, hx, e1, this]
    simp [f2, f3, hob, hob1, hc, hx, e1]
    refine callS_tree (has07_ok p.nodes (eth g.edges x).g hp1.small) ?_ ?_ ?_
    · simp [argTrees, argTree]
    · rfl
    by_cases e2 : (eth g.edges x).g ∈ p.nodes
    case neg =>
      have := bad (by simp [danF, hx, e1, e2])
      rw [show danF g p k = 14 by simp [danF, hx, e1, e2]] at this
      simp [f2, f3, hob, hob1, hc, hx, e1, e2, this]
    simp [f2, f3, hob, hob1, hc, hx, e1, e2, hw]
    exact lt_succ_all hp (by simp [danF, hx, e1, e2])
  · rintro S hc ⟨f2, f3, hob, hob1, hp⟩
    have : fe (danF g p) p.edges.length = 0 := fe_zero hp
    simp [f2, f3, hob, hob1, hc, this]

def tinyG (g : Gr) : Prop := tiny g.nodes.length ∧ tiny g.edges.length
def tinyP (p : Pa) : Prop := tiny p.nodes.length ∧ tiny p.edges.length

/-- The error of a graph and a part. -/
def subErr (g : Gr) (p : Pa) : Int := if gErr g = 0 then partErr g p else gErr g

def c_svalid : MFunc := ⟨14, [.tmp 4], .seq (.region [⟨some 2, .box 0 25 (.tmp 0), none⟩, ⟨some 3, .box 1 27 (.tmp 1), none⟩, ⟨some 4, .mv (.c (.one (.t (.int .i64 0)))), none⟩]) (.seq (.seq (.region [⟨some 6, .load true 2 (.tmp 2), none⟩, ⟨some 7, .call (.c (.one (.fn 85 []))) 65 [.tmp 6], none⟩, ⟨some 5, .mv (.tmp 7), none⟩]) (.seq (.region [⟨some 8, .mv (.tmp 5), none⟩, ⟨some 9, .bin .neq (.tmp 8) (.c (.one (.t (.int .i64 0)))), none⟩]) (.cond (.tmp 9) (.seq (.region [⟨some 10, .mv (.tmp 5), none⟩, ⟨some 4, .mv (.tmp 10), none⟩]) .ret) .skip))) (.seq (.region [⟨some 11, .load true 2 (.tmp 2), none⟩, ⟨some 12, .load true 2 (.tmp 3), none⟩, ⟨some 13, .call (.c (.one (.fn 81 []))) 258 [.tmp 11, .tmp 12], none⟩, ⟨some 4, .mv (.tmp 13), none⟩]) .ret))⟩
theorem k_svalid : cFn Try.prog Try.f63 = some c_svalid := by kernel_rfl
theorem svalid_ok (g : Gr) (p : Pa) (hg : tinyG g) (hp : tinyP p) : CallOK Try.prog 63 [g.v, p.v] (.sv (false, [.int .i64 (subErr g p)])) := by
  refine callOK_W (callS_W (by kernel_rfl) Try.func63 k_svalid (callable_of Try.func63 (by kernel_rfl)) (by simp [c_svalid]) ?_)
  simp [c_svalid]
  refine callS_tree (gvalid_ok g hg.1.small hg.2.small) ?_ ?_ ?_
  · rfl
  · rfl
  by_cases h1 : gErr g = 0
  case neg => simp [h1, subErr]
  simp [h1, subErr]
  refine callS_tree (part_ok g p hp.1 hp.2) ?_ ?_ ?_
  · rfl
  · rfl
  simp

def c_rvalid7 : MFunc := ⟨14, [.tmp 4], .seq (.region [⟨some 2, .box 0 25 (.tmp 0), none⟩, ⟨some 3, .box 1 27 (.tmp 1), none⟩, ⟨some 4, .mv (.c (.one (.t (.int .i64 0)))), none⟩]) (.seq (.seq (.region [⟨some 6, .load true 2 (.tmp 2), none⟩, ⟨some 7, .call (.c (.one (.fn 77 []))) 65 [.tmp 6], none⟩, ⟨some 5, .mv (.tmp 7), none⟩]) (.seq (.region [⟨some 8, .mv (.tmp 5), none⟩, ⟨some 9, .bin .neq (.tmp 8) (.c (.one (.t (.int .i64 0)))), none⟩]) (.cond (.tmp 9) (.seq (.region [⟨some 10, .mv (.tmp 5), none⟩, ⟨some 4, .mv (.tmp 10), none⟩]) .ret) .skip))) (.seq (.region [⟨some 11, .load true 2 (.tmp 2), none⟩, ⟨some 12, .load true 2 (.tmp 3), none⟩, ⟨some 13, .call (.c (.one (.fn 96 []))) 258 [.tmp 11, .tmp 12], none⟩, ⟨some 4, .mv (.tmp 13), none⟩]) .ret))⟩
theorem k_rvalid7 : cFn Try.prog Try.f73 = some c_rvalid7 := by kernel_rfl
theorem rvalid7_ok (g : Gr) (p : Pa) (hg : tinyG g) (hp : tinyP p) : CallOK Try.prog 73 [g.v, p.v] (.sv (false, [.int .i64 (subErr g p)])) := by
  refine callOK_W (callS_W (by kernel_rfl) Try.func73 k_rvalid7 (callable_of Try.func73 (by kernel_rfl)) (by simp [c_rvalid7]) ?_)
  simp [c_rvalid7]
  refine callS_tree (rvalid_ok g hg.1.small hg.2.small) ?_ ?_ ?_
  · rfl
  · rfl
  by_cases h1 : gErr g = 0
  case neg => simp [h1, subErr]
  simp [h1, subErr]
  refine callS_tree (right7_ok g p hp.1 hp.2) ?_ ?_ ?_
  · rfl
  · rfl
  simp
end Go.Proofs.Ythapbbpdcjmmfaa

/- Contracts: morphisms. -/
namespace Go.Proofs.Ythapbbpdcjmmfaa
open Abs
set_option linter.unusedSimpArgs false
set_option linter.unusedVariables false
attribute [local simp] rn0 rn1 rn2 rn3 rn4 rn5 rn6 rn7 evOp nests Arg.ev St.val St.set St.new sliceOf binInt2 binInt AV.cells rdAt St.live retOf resOf resAll treeOf treeCell treeCells treeTups untree frameOf TV.av TR.av ints edgs prs fillV splice intsOf trees V1.tree bx Gr.v Pa.v opRd opWr opNew opNewR opArgs argsRd argRd Arg.rd AV.refs V1.refs refsL dstL

structure GrOk (g : Gr) : Prop where
  n : g.nodes.length ≤ 40
  e : g.edges.length ≤ 80
  kinds : ∀ x ∈ g.nodes, 0 ≤ x ∧ x ≤ 99
  edges : ∀ e ∈ g.edges, 0 ≤ e.t ∧ e.t ≤ 99 ∧ 0 ≤ e.f ∧ e.f < g.nodes.length ∧ 0 ≤ e.g ∧ e.g < g.nodes.length

theorem gErr_ok {g : Gr} (h : gErr g = 0) : GrOk g := by
  unfold gErr at h
  split at h
  · cases h
  rename_i h0
  split at h
  · cases h
  rename_i h1
  split at h
  · cases h
  rename_i h2
  have h1 : nBad g.nodes = false := by simpa using h1
  have h2 : eBad g.nodes.length g.edges = false := by simpa using h2
  rw [nBad, List.any_eq_false] at h1
  rw [eBad, List.any_eq_false] at h2
  refine ⟨by omega, by omega, fun x hx => ?_, fun e he => ?_⟩
  · have := h1 x hx
    simpa [within] using this
  · have := h2 e he
    simp [eOk, within] at this
    omega

def mnF (a b : Gr) (m : Pa) (i : Nat) : Int := if nth m.nodes i < 0 then 6 else if (b.nodes.length : Int) ≤ nth m.nodes i then 6 else if nth b.nodes (nth m.nodes i).toNat = nth a.nodes i then 0 else 13
def meF (a b : Gr) (m : Pa) (i : Nat) : Int := if nth m.edges i < 0 then 6 else if (b.edges.length : Int) ≤ nth m.edges i then 6 else
  if (eth a.edges i).t = (eth b.edges (nth m.edges i).toNat).t then
    if nth m.nodes (eth a.edges i).f.toNat = (eth b.edges (nth m.edges i).toNat).f then if nth m.nodes (eth a.edges i).g.toNat = (eth b.edges (nth m.edges i).toNat).g then 0 else 11 else 11
  else 13
/-- The error of a morphism. -/
def morErr (a b : Gr) (m : Pa) : Int :=
  if gErr a = 0 then if gErr b = 0 then if (m.nodes.length : Int) = a.nodes.length ∧ (m.edges.length : Int) = a.edges.length then
    if fe (mnF a b m) m.nodes.length = 0 then fe (meF a b m) m.edges.length else fe (mnF a b m) m.nodes.length
  else 20 else gErr b else gErr a

def c_mvalid : MFunc := ⟨123, [.tmp 6], .seq (.region [⟨some 3, .box 0 25 (.tmp 0), none⟩, ⟨some 4, .box 1 25 (.tmp 1), none⟩, ⟨some 5, .box 2 28 (.tmp 2), none⟩, ⟨some 6, .mv (.c (.one (.t (.int .i64 0)))), none⟩]) (.seq (.seq (.region [⟨some 15, .load true 2 (.tmp 3), none⟩, ⟨some 16, .call (.c (.one (.fn 85 []))) 65 [.tmp 15], none⟩, ⟨some 7, .mv (.tmp 16), none⟩]) (.seq (.region [⟨some 17, .mv (.tmp 7), none⟩, ⟨some 18, .bin .neq (.tmp 17) (.c (.one (.t (.int .i64 0)))), none⟩]) (.cond (.tmp 18) (.seq (.region [⟨some 19, .mv (.tmp 7), none⟩, ⟨some 6, .mv (.tmp 19), none⟩]) .ret) .skip))) (.seq (.seq (.region [⟨some 20, .load true 2 (.tmp 4), none⟩, ⟨some 21, .call (.c (.one (.fn 85 []))) 257 [.tmp 20], none⟩, ⟨some 8, .mv (.tmp 21), none⟩]) (.seq (.region [⟨some 22, .mv (.tmp 8), none⟩, ⟨some 23, .bin .neq (.tmp 22) (.c (.one (.t (.int .i64 0)))), none⟩]) (.cond (.tmp 23) (.seq (.region [⟨some 24, .mv (.tmp 8), none⟩, ⟨some 6, .mv (.tmp 24), none⟩]) .ret) .skip))) (.seq (.seq (.region [⟨some 25, .fieldA 0 (.tmp 5), none⟩, ⟨some 26, .load false 1 (.tmp 25), none⟩, ⟨some 27, .len (.tmp 26), none⟩, ⟨some 28, .fieldA 0 (.tmp 3), none⟩, ⟨some 29, .load false 1 (.tmp 28), none⟩, ⟨some 30, .len (.tmp 29), none⟩, ⟨some 31, .bin .neq (.tmp 27) (.tmp 30), none⟩, ⟨some 32, .mv (.tmp 31), none⟩, ⟨some 33, .fieldA 1 (.tmp 5), some (32, false)⟩, ⟨some 34, .load false 1 (.tmp 33), some (32, false)⟩, ⟨some 35, .len (.tmp 34), some (32, false)⟩, ⟨some 36, .fieldA 1 (.tmp 3), some (32, false)⟩, ⟨some 37, .load false 1 (.tmp 36), some (32, false)⟩, ⟨some 38, .len (.tmp 37), some (32, false)⟩, ⟨some 39, .bin .neq (.tmp 35) (.tmp 38), some (32, false)⟩, ⟨some 40, .pick (.tmp 32) (.c (.one (.t (.bool true)))) (.tmp 39), none⟩]) (.cond (.tmp 40) (.seq (.region [⟨some 6, .mv (.c (.one (.t (.int .i64 20)))), none⟩]) .ret) .skip)) (.seq (.seq (.region [⟨some 41, .fieldA 0 (.tmp 5), none⟩, ⟨some 42, .load false 1 (.tmp 41), none⟩, ⟨some 43, .len (.tmp 42), none⟩, ⟨some 44, .mv (.c (.one (.t (.int .i64 0)))), none⟩]) (.block 0 (.loop (.seq (.region [⟨some 45, .bin .lss (.tmp 44) (.tmp 43), none⟩]) (.seq (.cond (.tmp 45) .skip (.exit 0)) (.seq (.block 1 (.seq (.region [⟨some 46, .mv (.tmp 44), none⟩, ⟨some 47, .idxA 1 (.tmp 42) (.tmp 44), none⟩, ⟨some 48, .load false 1 (.tmp 47), none⟩, ⟨some 9, .mv (.tmp 46), none⟩, ⟨some 10, .mv (.tmp 48), none⟩]) (.seq (.seq (.region [⟨some 49, .mv (.tmp 10), none⟩, ⟨some 50, .bin .lss (.tmp 49) (.c (.one (.t (.int .i64 0)))), none⟩, ⟨some 51, .mv (.tmp 50), none⟩, ⟨some 52, .mv (.tmp 10), some (51, false)⟩, ⟨some 53, .fieldA 0 (.tmp 4), some (51, false)⟩, ⟨some 54, .load false 1 (.tmp 53), some (51, false)⟩, ⟨some 55, .len (.tmp 54), some (51, false)⟩, ⟨some 56, .bin .geq (.tmp 52) (.tmp 55), some (51, false)⟩, ⟨some 57, .pick (.tmp 51) (.c (.one (.t (.bool true)))) (.tmp 56), none⟩]) (.cond (.tmp 57) (.seq (.region [⟨some 6, .mv (.c (.one (.t (.int .i64 6)))), none⟩]) .ret) .skip)) (.seq (.draw [[], [0], [], [1, 2], [3], [], [5], [], [6, 7], [8], [4, 9]] [⟨some 58, .fieldA 0 (.tmp 4), none⟩, ⟨some 59, .load false 1 (.tmp 58), none⟩, ⟨some 60, .mv (.tmp 10), none⟩, ⟨some 61, .idxA 1 (.tmp 59) (.tmp 60), none⟩, ⟨some 62, .load false 1 (.tmp 61), none⟩, ⟨some 63, .fieldA 0 (.tmp 3), none⟩, ⟨some 64, .load false 1 (.tmp 63), none⟩, ⟨some 65, .mv (.tmp 9), none⟩, ⟨some 66, .idxA 1 (.tmp 64) (.tmp 65), none⟩, ⟨some 67, .load false 1 (.tmp 66), none⟩, ⟨some 68, .bin .neq (.tmp 62) (.tmp 67), none⟩]) (.cond (.tmp 68) (.seq (.region [⟨some 6, .mv (.c (.one (.t (.int .i64 13)))), none⟩]) .ret) .skip))))) (.region [⟨some 69, .bin .add (.tmp 44) (.c (.one (.t (.int .i64 1)))), none⟩, ⟨some 44, .mv (.tmp 69), none⟩]))))))) (.seq (.seq (.region [⟨some 70, .fieldA 1 (.tmp 5), none⟩, ⟨some 71, .load false 1 (.tmp 70), none⟩, ⟨some 72, .len (.tmp 71), none⟩, ⟨some 73, .mv (.c (.one (.t (.int .i64 0)))), none⟩]) (.block 2 (.loop (.seq (.region [⟨some 74, .bin .lss (.tmp 73) (.tmp 72), none⟩]) (.seq (.cond (.tmp 74) .skip (.exit 2)) (.seq (.block 3 (.seq (.region [⟨some 75, .mv (.tmp 73), none⟩, ⟨some 76, .idxA 1 (.tmp 71) (.tmp 73), none⟩, ⟨some 77, .load false 1 (.tmp 76), none⟩, ⟨some 11, .mv (.tmp 75), none⟩, ⟨some 12, .mv (.tmp 77), none⟩]) (.seq (.seq (.region [⟨some 78, .mv (.tmp 12), none⟩, ⟨some 79, .bin .lss (.tmp 78) (.c (.one (.t (.int .i64 0)))), none⟩, ⟨some 80, .mv (.tmp 79), none⟩, ⟨some 81, .mv (.tmp 12), some (80, false)⟩, ⟨some 82, .fieldA 1 (.tmp 4), some (80, false)⟩, ⟨some 83, .load false 1 (.tmp 82), some (80, false)⟩, ⟨some 84, .len (.tmp 83), some (80, false)⟩, ⟨some 85, .bin .geq (.tmp 81) (.tmp 84), some (80, false)⟩, ⟨some 86, .pick (.tmp 80) (.c (.one (.t (.bool true)))) (.tmp 85), none⟩]) (.cond (.tmp 86) (.seq (.region [⟨some 6, .mv (.c (.one (.t (.int .i64 6)))), none⟩]) .ret) .skip)) (.seq (.draw [[], [0], [], [1, 2], [3], [], [5], [], [6, 7], [8], [], [], [10, 4, 0, 1, 2, 3, 4, 10, 11], [11, 9, 12, 0, 1, 2, 3, 4, 5, 6, 7, 8, 9, 10, 11, 12]] [⟨some 87, .fieldA 1 (.tmp 3), none⟩, ⟨some 88, .load false 1 (.tmp 87), none⟩, ⟨some 89, .mv (.tmp 11), none⟩, ⟨some 90, .idxA 3 (.tmp 88) (.tmp 89), none⟩, ⟨some 91, .load true 3 (.tmp 90), none⟩, ⟨some 92, .fieldA 1 (.tmp 4), none⟩, ⟨some 93, .load false 1 (.tmp 92), none⟩, ⟨some 94, .mv (.tmp 12), none⟩, ⟨some 95, .idxA 3 (.tmp 93) (.tmp 94), none⟩, ⟨some 96, .load true 3 (.tmp 95), none⟩, ⟨some 13, .alloc 1418 73 [.t (.int .i64 0), .t (.int .i64 0), .t (.int .i64 0)], none⟩, ⟨some 14, .alloc 1419 73 [.t (.int .i64 0), .t (.int .i64 0), .t (.int .i64 0)], none⟩, ⟨none, .store 3 (.tmp 13) (.tmp 91), none⟩, ⟨none, .store 3 (.tmp 14) (.tmp 96), none⟩]) (.seq (.seq (.region [⟨some 97, .fieldA 0 (.tmp 13), none⟩, ⟨some 98, .load false 1 (.tmp 97), none⟩, ⟨some 99, .fieldA 0 (.tmp 14), none⟩, ⟨some 100, .load false 1 (.tmp 99), none⟩, ⟨some 101, .bin .neq (.tmp 98) (.tmp 100), none⟩]) (.cond (.tmp 101) (.seq (.region [⟨some 6, .mv (.c (.one (.t (.int .i64 13)))), none⟩]) .ret) .skip)) (.seq (.draw [[], [0], [], [2], [1, 3], [4], [], [6], [5, 7], [8], [9], [10, 9], [9], [12, 9], [11, 13, 9], [14, 9], [9], [16, 9], [15, 17, 9], [9, 18]] [⟨some 102, .fieldA 0 (.tmp 5), none⟩, ⟨some 103, .load false 1 (.tmp 102), none⟩, ⟨some 104, .fieldA 1 (.tmp 13), none⟩, ⟨some 105, .load false 1 (.tmp 104), none⟩, ⟨some 106, .idxA 1 (.tmp 103) (.tmp 105), none⟩, ⟨some 107, .load false 1 (.tmp 106), none⟩, ⟨some 108, .fieldA 1 (.tmp 14), none⟩, ⟨some 109, .load false 1 (.tmp 108), none⟩, ⟨some 110, .bin .neq (.tmp 107) (.tmp 109), none⟩, ⟨some 111, .mv (.tmp 110), none⟩, ⟨some 112, .fieldA 0 (.tmp 5), some (111, false)⟩, ⟨some 113, .load false 1 (.tmp 112), some (111, false)⟩, ⟨some 114, .fieldA 2 (.tmp 13), some (111, false)⟩, ⟨some 115, .load false 1 (.tmp 114), some (111, false)⟩, ⟨some 116, .idxA 1 (.tmp 113) (.tmp 115), some (111, false)⟩, ⟨some 117, .load false 1 (.tmp 116), some (111, false)⟩, ⟨some 118, .fieldA 2 (.tmp 14), some (111, false)⟩, ⟨some 119, .load false 1 (.tmp 118), some (111, false)⟩, ⟨some 120, .bin .neq (.tmp 117) (.tmp 119), some (111, false)⟩, ⟨some 121, .pick (.tmp 111) (.c (.one (.t (.bool true)))) (.tmp 120), none⟩]) (.cond (.tmp 121) (.seq (.region [⟨some 6, .mv (.c (.one (.t (.int .i64 11)))), none⟩]) .ret) .skip))))))) (.region [⟨some 122, .bin .add (.tmp 73) (.c (.one (.t (.int .i64 1)))), none⟩, ⟨some 73, .mv (.tmp 122), none⟩]))))))) (.seq (.region [⟨some 6, .mv (.c (.one (.t (.int .i64 0)))), none⟩]) .ret))))))⟩
theorem k_mvalid : cFn Try.prog Try.f69 = some c_mvalid := by kernel_rfl
theorem mvalid_ok (a b : Gr) (m : Pa) (ha : tinyG a) (hb : tinyG b) (hm : tinyP m) : CallOK Try.prog 69 [a.v, b.v, m.v] (.sv (false, [.int .i64 (morErr a b m)])) := by
  refine callOK_W (callS_W (by kernel_rfl) Try.func69 k_mvalid (callable_of Try.func69 (by kernel_rfl)) (by simp [c_mvalid]) ?_)
  simp [c_mvalid]
  refine callS_tree (gvalid_ok a ha.1.small ha.2.small) ?_ ?_ ?_
  · rfl
  · rfl
  by_cases h1 : gErr a = 0
  case neg => simp [h1, morErr]
  simp [h1]
  refine callS_tree (gvalid_ok b hb.1.small hb.2.small) ?_ ?_ ?_
  · rfl
  · rfl
  by_cases h2 : gErr b = 0
  case neg => simp [h1, h2, morErr]
  by_cases h3 : (m.nodes.length : Int) = a.nodes.length
  case neg => simp [h1, h2, h3, morErr]
  by_cases h4 : (m.edges.length : Int) = a.edges.length
  case neg => simp [h1, h2, h3, h4, morErr]
  simp [h2, h3, h4]
  have e0 : morErr a b m = if fe (mnF a b m) m.nodes.length = 0 then fe (meF a b m) m.edges.length else fe (mnF a b m) m.nodes.length := by simp [morErr, h1, h2, h3, h4]
  have ga := gErr_ok h1
  have gb := gErr_ok h2
  have l3 : m.nodes.length = a.nodes.length := by omega
  have l4 : m.edges.length = a.edges.length := by omega
  refine loopW_count 44 m.nodes.length (fun k S => S.fr 3 = .one (.ptr (0, 0) 0) ∧ S.fr 4 = .one (.ptr (1, 0) 0) ∧ S.fr 5 = .one (.ptr (2, 0) 0) ∧ S.fr 42 = .one (.t (ints m.nodes)) ∧ S.fr 43 = .one (.t (.int .i64 m.nodes.length)) ∧
    S.ob (0, 0) = some (bx 25 (a.v.2.map .t)) ∧ S.ob (1, 0) = some (bx 25 (b.v.2.map .t)) ∧ S.ob (2, 0) = some (bx 28 (m.v.2.map .t)) ∧ ∀ j, j < k → mnF a b m j = 0) hm.1.small ?_ ?_ ?_
  · simp [h3]
  · rintro k S hlt hw hc ⟨f3, f4, f5, f42, f43, o0, o1, o2, hp⟩
    have bad : mnF a b m k ≠ 0 → morErr a b m = mnF a b m k := fun h => by
      have := fe_at (n := m.nodes.length) hlt hp h
      rw [e0, this, if_neg h]
    have hlt2 : k < a.nodes.length := by omega
    by_cases e1 : nth m.nodes k < 0
    · have := bad (by simp [mnF, e1])
      rw [show mnF a b m k = 6 by simp [mnF, e1]] at this
      simp [f3, f4, f5, f42, f43, o0, o1, o2, hc, hlt, drop_nth hlt, e1, this]
    by_cases e2 : (b.nodes.length : Int) ≤ nth m.nodes k
    · have := bad (by simp [mnF, e1, e2])
      rw [show mnF a b m k = 6 by simp [mnF, e1, e2]] at this
      simp [f3, f4, f5, f42, f43, o0, o1, o2, hc, hlt, drop_nth hlt, e1, e2, this]
    obtain ⟨x, hx⟩ := Int.eq_ofNat_of_zero_le (show 0 ≤ nth m.nodes k by omega)
    have hx2 : x < b.nodes.length := by omega
    have e2' : ¬ b.nodes.length ≤ x := by omega
    by_cases e3 : nth b.nodes x = nth a.nodes k
    case neg =>
      have := bad (by simp [mnF, natNeg, e2', hx, e3])
      rw [show mnF a b m k = 13 by simp [mnF, natNeg, e2', hx, e3]] at this
      simp [dw0, dw1, dw2, dw3, f3, f4, f5, f42, f43, o0, o1, o2, hc, hlt, hlt2, hx, hx2, e2', drop_nth hlt, drop_nth hx2, drop_nth hlt2, e3, this]
      rfl
    simp [dw0, dw1, dw2, dw3, f3, f4, f5, f42, f43, o0, o1, o2, hc, hlt, hlt2, hx, hx2, e2', drop_nth hlt, drop_nth hx2, drop_nth hlt2, e3, hw]
    exact ⟨rfl, lt_succ_all hp (by simp [mnF, natNeg, e2', hx, e3])⟩
  · rintro S hc ⟨f3, f4, f5, f42, f43, o0, o1, o2, hp⟩
    rw [fe_zero hp, if_pos rfl] at e0
    simp [f3, f4, f5, f42, f43, o0, o1, o2, hc]
    refine loopW_count 73 m.edges.length (fun k S => S.fr 3 = .one (.ptr (0, 0) 0) ∧ S.fr 4 = .one (.ptr (1, 0) 0) ∧ S.fr 5 = .one (.ptr (2, 0) 0) ∧ S.fr 71 = .one (.t (ints m.edges)) ∧ S.fr 72 = .one (.t (.int .i64 m.edges.length)) ∧
      S.ob (0, 0) = some (bx 25 (a.v.2.map .t)) ∧ S.ob (1, 0) = some (bx 25 (b.v.2.map .t)) ∧ S.ob (2, 0) = some (bx 28 (m.v.2.map .t)) ∧ ∀ j, j < k → meF a b m j = 0) hm.2.small ?_ ?_ ?_
    · simp [f3, f4, f5, o0, o1, o2]
    · rintro k S hlt hw hc ⟨f3, f4, f5, f71, f72, o0, o1, o2, hp⟩
      have bad : meF a b m k ≠ 0 → morErr a b m = meF a b m k := fun h => by
        have := fe_at (n := m.edges.length) hlt hp h
        rw [e0, this]
      have hlt2 : k < a.edges.length := by omega
      have hlt3 : k * 3 < a.edges.length * 3 := by omega
      by_cases e1 : nth m.edges k < 0
      · have := bad (by simp [meF, e1])
        rw [show meF a b m k = 6 by simp [meF, e1]] at this
        simp [f3, f4, f5, f71, f72, o0, o1, o2, hc, hlt, drop_nth hlt, e1, this]
      by_cases e2 : (b.edges.length : Int) ≤ nth m.edges k
      · have := bad (by simp [meF, e1, e2])
        rw [show meF a b m k = 6 by simp [meF, e1, e2]] at this
        simp [f3, f4, f5, f71, f72, o0, o1, o2, hc, hlt, drop_nth hlt, e1, e2, this]
      obtain ⟨x, hx⟩ := Int.eq_ofNat_of_zero_le (show 0 ≤ nth m.edges k by omega)
      have hx2 : x < b.edges.length := by omega
      have hx3 : x * 3 < b.edges.length * 3 := by omega
      have e2' : ¬ b.edges.length ≤ x := by omega
      obtain ⟨_, _, q1, q2, q3, q4⟩ := ga.edges _ (eth_mem hlt2)
      obtain ⟨y, hy⟩ := Int.eq_ofNat_of_zero_le q1
      obtain ⟨z, hz⟩ := Int.eq_ofNat_of_zero_le q3
      have hy2 : y < m.nodes.length := by omega
      have hz2 : z < m.nodes.length := by omega
      by_cases e3 : (eth a.edges k).t = (eth b.edges x).t
      case neg =>
        have := bad (by simp [meF, natNeg, e2', hx, e3])
        rw [show meF a b m k = 13 by simp [meF, natNeg, e2', hx, e3]] at this
        simp [dw0, dw1, dw2, dw3, f3, f4, f5, f71, f72, o0, o1, o2, hc, hlt, hlt2, hlt3, hx, hx2, hx3, e2', drop_nth hlt, drop_edL hx2, drop_edL hlt2, e3, this]
        rfl
      by_cases e4 : nth m.nodes y = (eth b.edges x).f
      case neg =>
        have := bad (by simp [meF, natNeg, e2', hx, e3, hy, e4])
        rw [show meF a b m k = 11 by simp [meF, natNeg, e2', hx, e3, hy, e4]] at this
        simp [dw0, dw1, dw2, dw3, f3, f4, f5, f71, f72, o0, o1, o2, hc, hlt, hlt2, hlt3, hx, hx2, hx3, e2', drop_nth hlt, drop_edL hx2, drop_edL hlt2, e3, hy, hy2, drop_nth hy2, e4, this]
        exact ⟨rfl, rfl⟩
      by_cases e5 : nth m.nodes z = (eth b.edges x).g
      case neg =>
        have := bad (by simp [meF, natNeg, e2', hx, e3, hy, e4, hz, e5])
        rw [show meF a b m k = 11 by simp [meF, natNeg, e2', hx, e3, hy, e4, hz, e5]] at this
        simp [dw0, dw1, dw2, dw3, f3, f4, f5, f71, f72, o0, o1, o2, hc, hlt, hlt2, hlt3, hx, hx2, hx3, e2', drop_nth hlt, drop_edL hx2, drop_edL hlt2, e3, hy, hy2, drop_nth hy2, e4, hz, hz2, drop_nth hz2, e5, this]
        exact ⟨rfl, rfl⟩
      simp [dw0, dw1, dw2, dw3, f3, f4, f5, f71, f72, o0, o1, o2, hc, hlt, hlt2, hlt3, hx, hx2, hx3, e2', drop_nth hlt, drop_edL hx2, drop_edL hlt2, e3, hy, hy2, drop_nth hy2, e4, hz, hz2, drop_nth hz2, e5, hw]
      exact ⟨rfl, rfl, lt_succ_all hp (by simp [meF, natNeg, e2', hx, e3, hy, e4, hz, e5])⟩
    · rintro S hc ⟨f3, f4, f5, f71, f72, o0, o1, o2, hp⟩
      rw [fe_zero hp] at e0
      simp [f3, f4, f5, hc, f71, f72, e0]
end Go.Proofs.Ythapbbpdcjmmfaa

/- Contracts: morphisms in the reference; the errors of the arguments. -/
namespace Go.Proofs.Ythapbbpdcjmmfaa
open Abs
set_option linter.unusedSimpArgs false
set_option linter.unusedVariables false
attribute [local simp] rn0 rn1 rn2 rn3 rn4 rn5 rn6 rn7 evOp nests Arg.ev St.val St.set St.new sliceOf binInt2 binInt AV.cells rdAt St.live retOf resOf resAll treeOf treeCell treeCells treeTups untree frameOf TV.av TR.av ints edgs prs fillV splice intsOf trees V1.tree bx Gr.v Pa.v opRd opWr opNew opNewR opArgs argsRd argRd Arg.rd AV.refs V1.refs refsL dstL

def c_rvalid6 : MFunc := ⟨141, [.tmp 6], .seq (.region [⟨some 3, .box 0 25 (.tmp 0), none⟩, ⟨some 4, .box 1 25 (.tmp 1), none⟩, ⟨some 5, .box 2 28 (.tmp 2), none⟩, ⟨some 6, .mv (.c (.one (.t (.int .i64 0)))), none⟩]) (.seq (.seq (.region [⟨some 13, .load true 2 (.tmp 3), none⟩, ⟨some 14, .call (.c (.one (.fn 77 []))) 65 [.tmp 13], none⟩, ⟨some 7, .mv (.tmp 14), none⟩]) (.seq (.region [⟨some 15, .mv (.tmp 7), none⟩, ⟨some 16, .bin .neq (.tmp 15) (.c (.one (.t (.int .i64 0)))), none⟩]) (.cond (.tmp 16) (.seq (.region [⟨some 17, .mv (.tmp 7), none⟩, ⟨some 6, .mv (.tmp 17), none⟩]) .ret) .skip))) (.seq (.seq (.region [⟨some 18, .load true 2 (.tmp 4), none⟩, ⟨some 19, .call (.c (.one (.fn 77 []))) 257 [.tmp 18], none⟩, ⟨some 8, .mv (.tmp 19), none⟩]) (.seq (.region [⟨some 20, .mv (.tmp 8), none⟩, ⟨some 21, .bin .neq (.tmp 20) (.c (.one (.t (.int .i64 0)))), none⟩]) (.cond (.tmp 21) (.seq (.region [⟨some 22, .mv (.tmp 8), none⟩, ⟨some 6, .mv (.tmp 22), none⟩]) .ret) .skip))) (.seq (.seq (.region [⟨some 23, .fieldA 0 (.tmp 5), none⟩, ⟨some 24, .load false 1 (.tmp 23), none⟩, ⟨some 25, .len (.tmp 24), none⟩, ⟨some 26, .fieldA 0 (.tmp 3), none⟩, ⟨some 27, .load false 1 (.tmp 26), none⟩, ⟨some 28, .len (.tmp 27), none⟩, ⟨some 29, .bin .neq (.tmp 25) (.tmp 28), none⟩, ⟨some 30, .mv (.tmp 29), none⟩, ⟨some 31, .fieldA 1 (.tmp 5), some (30, false)⟩, ⟨some 32, .load false 1 (.tmp 31), some (30, false)⟩, ⟨some 33, .len (.tmp 32), some (30, false)⟩, ⟨some 34, .fieldA 1 (.tmp 3), some (30, false)⟩, ⟨some 35, .load false 1 (.tmp 34), some (30, false)⟩, ⟨some 36, .len (.tmp 35), some (30, false)⟩, ⟨some 37, .bin .neq (.tmp 33) (.tmp 36), some (30, false)⟩, ⟨some 38, .pick (.tmp 30) (.c (.one (.t (.bool true)))) (.tmp 37), none⟩]) (.cond (.tmp 38) (.seq (.region [⟨some 6, .mv (.c (.one (.t (.int .i64 20)))), none⟩]) .ret) .skip)) (.seq (.seq (.region [⟨some 9, .mv (.c (.one (.t (.int .i64 0)))), none⟩]) (.block 0 (.loop (.seq (.seq (.region [⟨some 39, .mv (.tmp 9), none⟩, ⟨some 40, .fieldA 0 (.tmp 3), none⟩, ⟨some 41, .load false 1 (.tmp 40), none⟩, ⟨some 42, .len (.tmp 41), none⟩, ⟨some 43, .bin .lss (.tmp 39) (.tmp 42), none⟩]) (.cond (.tmp 43) .skip (.exit 0))) (.seq (.block 1 (.seq (.seq (.draw [[], [0], [], [1, 2], [3], [4], [5], [6], [7, 6], [6], [8, 9, 6], [10, 6], [6], [12, 6], [13, 6], [11, 14, 6], [6, 15]] [⟨some 46, .fieldA 0 (.tmp 5), none⟩, ⟨some 47, .load false 1 (.tmp 46), none⟩, ⟨some 48, .mv (.tmp 9), none⟩, ⟨some 49, .idxA 1 (.tmp 47) (.tmp 48), none⟩, ⟨some 50, .load false 1 (.tmp 49), none⟩, ⟨some 51, .bin .lss (.tmp 50) (.c (.one (.t (.int .i64 0)))), none⟩, ⟨some 52, .mv (.tmp 51), none⟩, ⟨some 53, .fieldA 0 (.tmp 5), some (52, false)⟩, ⟨some 54, .load false 1 (.tmp 53), some (52, false)⟩, ⟨some 55, .mv (.tmp 9), some (52, false)⟩, ⟨some 56, .idxA 1 (.tmp 54) (.tmp 55), some (52, false)⟩, ⟨some 57, .load false 1 (.tmp 56), some (52, false)⟩, ⟨some 58, .fieldA 0 (.tmp 4), some (52, false)⟩, ⟨some 59, .load false 1 (.tmp 58), some (52, false)⟩, ⟨some 60, .len (.tmp 59), some (52, false)⟩, ⟨some 61, .bin .geq (.tmp 57) (.tmp 60), some (52, false)⟩, ⟨some 62, .pick (.tmp 52) (.c (.one (.t (.bool true)))) (.tmp 61), none⟩]) (.cond (.tmp 62) (.seq (.region [⟨some 6, .mv (.c (.one (.t (.int .i64 6)))), none⟩]) .ret) .skip)) (.seq (.draw [[], [0], [], [2], [], [3, 4], [5], [1, 6], [7], [], [9], [], [10, 11], [12], [8, 13]] [⟨some 63, .fieldA 0 (.tmp 4), none⟩, ⟨some 64, .load false 1 (.tmp 63), none⟩, ⟨some 65, .fieldA 0 (.tmp 5), none⟩, ⟨some 66, .load false 1 (.tmp 65), none⟩, ⟨some 67, .mv (.tmp 9), none⟩, ⟨some 68, .idxA 1 (.tmp 66) (.tmp 67), none⟩, ⟨some 69, .load false 1 (.tmp 68), none⟩, ⟨some 70, .idxA 1 (.tmp 64) (.tmp 69), none⟩, ⟨some 71, .load false 1 (.tmp 70), none⟩, ⟨some 72, .fieldA 0 (.tmp 3), none⟩, ⟨some 73, .load false 1 (.tmp 72), none⟩, ⟨some 74, .mv (.tmp 9), none⟩, ⟨some 75, .idxA 1 (.tmp 73) (.tmp 74), none⟩, ⟨some 76, .load false 1 (.tmp 75), none⟩, ⟨some 77, .bin .neq (.tmp 71) (.tmp 76), none⟩]) (.cond (.tmp 77) (.seq (.region [⟨some 6, .mv (.c (.one (.t (.int .i64 13)))), none⟩]) .ret) .skip)))) (.region [⟨some 44, .mv (.tmp 9), none⟩, ⟨some 45, .bin .add (.tmp 44) (.c (.one (.t (.int .i64 1)))), none⟩, ⟨some 9, .mv (.tmp 45), none⟩])))))) (.seq (.seq (.region [⟨some 10, .mv (.c (.one (.t (.int .i64 0)))), none⟩]) (.block 2 (.loop (.seq (.seq (.region [⟨some 78, .mv (.tmp 10), none⟩, ⟨some 79, .fieldA 1 (.tmp 3), none⟩, ⟨some 80, .load false 1 (.tmp 79), none⟩, ⟨some 81, .len (.tmp 80), none⟩, ⟨some 82, .bin .lss (.tmp 78) (.tmp 81), none⟩]) (.cond (.tmp 82) .skip (.exit 2))) (.seq (.block 3 (.seq (.seq (.draw [[], [0], [], [1, 2], [3], [4], [5], [6], [7, 6], [6], [8, 9, 6], [10, 6], [6], [12, 6], [13, 6], [11, 14, 6], [6, 15]] [⟨some 85, .fieldA 1 (.tmp 5), none⟩, ⟨some 86, .load false 1 (.tmp 85), none⟩, ⟨some 87, .mv (.tmp 10), none⟩, ⟨some 88, .idxA 1 (.tmp 86) (.tmp 87), none⟩, ⟨some 89, .load false 1 (.tmp 88), none⟩, ⟨some 90, .bin .lss (.tmp 89) (.c (.one (.t (.int .i64 0)))), none⟩, ⟨some 91, .mv (.tmp 90), none⟩, ⟨some 92, .fieldA 1 (.tmp 5), some (91, false)⟩, ⟨some 93, .load false 1 (.tmp 92), some (91, false)⟩, ⟨some 94, .mv (.tmp 10), some (91, false)⟩, ⟨some 95, .idxA 1 (.tmp 93) (.tmp 94), some (91, false)⟩, ⟨some 96, .load false 1 (.tmp 95), some (91, false)⟩, ⟨some 97, .fieldA 1 (.tmp 4), some (91, false)⟩, ⟨some 98, .load false 1 (.tmp 97), some (91, false)⟩, ⟨some 99, .len (.tmp 98), some (91, false)⟩, ⟨some 100, .bin .geq (.tmp 96) (.tmp 99), some (91, false)⟩, ⟨some 101, .pick (.tmp 91) (.c (.one (.t (.bool true)))) (.tmp 100), none⟩]) (.cond (.tmp 101) (.seq (.region [⟨some 6, .mv (.c (.one (.t (.int .i64 6)))), none⟩]) .ret) .skip)) (.seq (.draw [[], [0], [], [1, 2], [3], [], [5], [], [7], [], [8, 9], [10], [6, 11], [12], [], [], [14, 4, 0, 1, 2, 3, 4, 14, 15], [15, 13, 16, 0, 1, 2, 3, 4, 5, 6, 7, 8, 9, 10, 11, 12, 13, 14, 15, 16]] [⟨some 102, .fieldA 1 (.tmp 3), none⟩, ⟨some 103, .load false 1 (.tmp 102), none⟩, ⟨some 104, .mv (.tmp 10), none⟩, ⟨some 105, .idxA 3 (.tmp 103) (.tmp 104), none⟩, ⟨some 106, .load true 3 (.tmp 105), none⟩, ⟨some 107, .fieldA 1 (.tmp 4), none⟩, ⟨some 108, .load false 1 (.tmp 107), none⟩, ⟨some 109, .fieldA 1 (.tmp 5), none⟩, ⟨some 110, .load false 1 (.tmp 109), none⟩, ⟨some 111, .mv (.tmp 10), none⟩, ⟨some 112, .idxA 1 (.tmp 110) (.tmp 111), none⟩, ⟨some 113, .load false 1 (.tmp 112), none⟩, ⟨some 114, .idxA 3 (.tmp 108) (.tmp 113), none⟩, ⟨some 115, .load true 3 (.tmp 114), none⟩, ⟨some 11, .alloc 1358 73 [.t (.int .i64 0), .t (.int .i64 0), .t (.int .i64 0)], none⟩, ⟨some 12, .alloc 1359 73 [.t (.int .i64 0), .t (.int .i64 0), .t (.int .i64 0)], none⟩, ⟨none, .store 3 (.tmp 11) (.tmp 106), none⟩, ⟨none, .store 3 (.tmp 12) (.tmp 115), none⟩]) (.seq (.seq (.region [⟨some 116, .fieldA 0 (.tmp 11), none⟩, ⟨some 117, .load false 1 (.tmp 116), none⟩, ⟨some 118, .fieldA 0 (.tmp 12), none⟩, ⟨some 119, .load false 1 (.tmp 118), none⟩, ⟨some 120, .bin .neq (.tmp 117) (.tmp 119), none⟩]) (.cond (.tmp 120) (.seq (.region [⟨some 6, .mv (.c (.one (.t (.int .i64 13)))), none⟩]) .ret) .skip)) (.seq (.draw [[], [0], [], [2], [1, 3], [4], [], [6], [5, 7], [8], [9], [10, 9], [9], [12, 9], [11, 13, 9], [14, 9], [9], [16, 9], [15, 17, 9], [9, 18]] [⟨some 121, .fieldA 0 (.tmp 5), none⟩, ⟨some 122, .load false 1 (.tmp 121), none⟩, ⟨some 123, .fieldA 1 (.tmp 11), none⟩, ⟨some 124, .load false 1 (.tmp 123), none⟩, ⟨some 125, .idxA 1 (.tmp 122) (.tmp 124), none⟩, ⟨some 126, .load false 1 (.tmp 125), none⟩, ⟨some 127, .fieldA 1 (.tmp 12), none⟩, ⟨some 128, .load false 1 (.tmp 127), none⟩, ⟨some 129, .bin .neq (.tmp 126) (.tmp 128), none⟩, ⟨some 130, .mv (.tmp 129), none⟩, ⟨some 131, .fieldA 0 (.tmp 5), some (130, false)⟩, ⟨some 132, .load false 1 (.tmp 131), some (130, false)⟩, ⟨some 133, .fieldA 2 (.tmp 11), some (130, false)⟩, ⟨some 134, .load false 1 (.tmp 133), some (130, false)⟩, ⟨some 135, .idxA 1 (.tmp 132) (.tmp 134), some (130, false)⟩, ⟨some 136, .load false 1 (.tmp 135), some (130, false)⟩, ⟨some 137, .fieldA 2 (.tmp 12), some (130, false)⟩, ⟨some 138, .load false 1 (.tmp 137), some (130, false)⟩, ⟨some 139, .bin .neq (.tmp 136) (.tmp 138), some (130, false)⟩, ⟨some 140, .pick (.tmp 130) (.c (.one (.t (.bool true)))) (.tmp 139), none⟩]) (.cond (.tmp 140) (.seq (.region [⟨some 6, .mv (.c (.one (.t (.int .i64 11)))), none⟩]) .ret) .skip)))))) (.region [⟨some 83, .mv (.tmp 10), none⟩, ⟨some 84, .bin .add (.tmp 83) (.c (.one (.t (.int .i64 1)))), none⟩, ⟨some 10, .mv (.tmp 84), none⟩])))))) (.seq (.region [⟨some 6, .mv (.c (.one (.t (.int .i64 0)))), none⟩]) .ret))))))⟩
theorem k_rvalid6 : cFn Try.prog Try.f72 = some c_rvalid6 := by kernel_rfl
theorem rvalid6_ok (a b : Gr) (m : Pa) (ha : tinyG a) (hb : tinyG b) (hm : tinyP m) : CallOK Try.prog 72 [a.v, b.v, m.v] (.sv (false, [.int .i64 (morErr a b m)])) := by
  refine callOK_W (callS_W (by kernel_rfl) Try.func72 k_rvalid6 (callable_of Try.func72 (by kernel_rfl)) (by simp [c_rvalid6]) ?_)
  simp [c_rvalid6]
  refine callS_tree (rvalid_ok a ha.1.small ha.2.small) ?_ ?_ ?_
  · rfl
  · rfl
  by_cases h1 : gErr a = 0
  case neg => simp [h1, morErr]
  simp [h1]
  refine callS_tree (rvalid_ok b hb.1.small hb.2.small) ?_ ?_ ?_
  · rfl
  · rfl
  by_cases h2 : gErr b = 0
  case neg => simp [h1, h2, morErr]
  by_cases h3 : (m.nodes.length : Int) = a.nodes.length
  case neg => simp [h1, h2, h3, morErr]
  by_cases h4 : (m.edges.length : Int) = a.edges.length
  case neg => simp [h1, h2, h3, h4, morErr]
  simp [h2, h3, h4]
  have e0 : morErr a b m = if fe (mnF a b m) m.nodes.length = 0 then fe (meF a b m) m.edges.length else fe (mnF a b m) m.nodes.length := by simp [morErr, h1, h2, h3, h4]
  have ga := gErr_ok h1
  have gb := gErr_ok h2
  have l3 : m.nodes.length = a.nodes.length := by omega
  have l4 : m.edges.length = a.edges.length := by omega
  refine loopW_count 9 m.nodes.length (fun k S => S.fr 3 = .one (.ptr (0, 0) 0) ∧ S.fr 4 = .one (.ptr (1, 0) 0) ∧ S.fr 5 = .one (.ptr (2, 0) 0) ∧
    S.ob (0, 0) = some (bx 25 (a.v.2.map .t)) ∧ S.ob (1, 0) = some (bx 25 (b.v.2.map .t)) ∧ S.ob (2, 0) = some (bx 28 (m.v.2.map .t)) ∧ ∀ j, j < k → mnF a b m j = 0) hm.1.small ?_ ?_ ?_
  · simp [h3]
  · rintro k S hlt hw hc ⟨f3, f4, f5, o0, o1, o2, hp⟩
    have bad : mnF a b m k ≠ 0 → morErr a b m = mnF a b m k := fun h => by
      have := fe_at (n := m.nodes.length) hlt hp h
      rw [e0, this, if_neg h]
    have hlt2 : k < a.nodes.length := by omega
    by_cases e1 : nth m.nodes k < 0
    · have := bad (by simp [mnF, e1])
      rw [show mnF a b m k = 6 by simp [mnF, e1]] at this
      simp [dw0, dw1, dw2, dw3, f3, f4, f5, o0, o1, o2, hc, hlt, hlt2, drop_nth hlt, e1, this]
      rfl
    by_cases e2 : (b.nodes.length : Int) ≤ nth m.nodes k
    · have := bad (by simp [mnF, e1, e2])
      rw [show mnF a b m k = 6 by simp [mnF, e1, e2]] at this
      simp [dw0, dw1, dw2, dw3, f3, f4, f5, o0, o1, o2, hc, hlt, hlt2, drop_nth hlt, e1, e2, this]
      rfl
    obtain ⟨x, hx⟩ := Int.eq_ofNat_of_zero_le (show 0 ≤ nth m.nodes k by omega)
    have hx2 : x < b.nodes.length := by omega
    have e2' : ¬ b.nodes.length ≤ x := by omega
    by_cases e3 : nth b.nodes x = nth a.nodes k
    case neg =>
      have := bad (by simp [mnF, natNeg, e2', hx, e3])
      rw [show mnF a b m k = 13 by simp [mnF, natNeg, e2', hx, e3]] at this
      simp [dw0, dw1, dw2, dw3, f3, f4, f5, o0, o1, o2, hc, hlt, hlt2, hx, hx2, e2', drop_nth hlt, drop_nth hx2, drop_nth hlt2, e3, this]
      exact ⟨rfl, rfl⟩
    simp [dw0, dw1, dw2, dw3, f3, f4, f5, o0, o1, o2, hc, hlt, hlt2, hx, hx2, e2', drop_nth hlt, drop_nth hx2, drop_nth hlt2, e3, hw]
    exact ⟨rfl, rfl, lt_succ_all hp (by simp [mnF, natNeg, e2', hx, e3])⟩
  · rintro S hc ⟨f3, f4, f5, o0, o1, o2, hp⟩
    rw [fe_zero hp, if_pos rfl] at e0
    simp [f3, f4, f5, o0, o1, o2, hc, l3]
    refine loopW_count 10 m.edges.length (fun k S => S.fr 3 = .one (.ptr (0, 0) 0) ∧ S.fr 4 = .one (.ptr (1, 0) 0) ∧ S.fr 5 = .one (.ptr (2, 0) 0) ∧
      S.ob (0, 0) = some (bx 25 (a.v.2.map .t)) ∧ S.ob (1, 0) = some (bx 25 (b.v.2.map .t)) ∧ S.ob (2, 0) = some (bx 28 (m.v.2.map .t)) ∧ ∀ j, j < k → meF a b m j = 0) hm.2.small ?_ ?_ ?_
    · simp [f3, f4, f5, o0, o1, o2]
    · rintro k S hlt hw hc ⟨f3, f4, f5, o0, o1, o2, hp⟩
      have bad : meF a b m k ≠ 0 → morErr a b m = meF a b m k := fun h => by
        have := fe_at (n := m.edges.length) hlt hp h
        rw [e0, this]
      have hlt2 : k < a.edges.length := by omega
      have hlt3 : k * 3 < a.edges.length * 3 := by omega
      by_cases e1 : nth m.edges k < 0
      · have := bad (by simp [meF, e1])
        rw [show meF a b m k = 6 by simp [meF, e1]] at this
        simp [dw0, dw1, dw2, dw3, f3, f4, f5, o0, o1, o2, hc, hlt, hlt2, drop_nth hlt, e1, this]
        rfl
      by_cases e2 : (b.edges.length : Int) ≤ nth m.edges k
      · have := bad (by simp [meF, e1, e2])
        rw [show meF a b m k = 6 by simp [meF, e1, e2]] at this
        simp [dw0, dw1, dw2, dw3, f3, f4, f5, o0, o1, o2, hc, hlt, hlt2, drop_nth hlt, e1, e2, this]
        rfl
      obtain ⟨x, hx⟩ := Int.eq_ofNat_of_zero_le (show 0 ≤ nth m.edges k by omega)
      have hx2 : x < b.edges.length := by omega
      have hx3 : x * 3 < b.edges.length * 3 := by omega
      have e2' : ¬ b.edges.length ≤ x := by omega
      obtain ⟨_, _, q1, q2, q3, q4⟩ := ga.edges _ (eth_mem hlt2)
      obtain ⟨y, hy⟩ := Int.eq_ofNat_of_zero_le q1
      obtain ⟨z, hz⟩ := Int.eq_ofNat_of_zero_le q3
      have hy2 : y < m.nodes.length := by omega
      have hz2 : z < m.nodes.length := by omega
      by_cases e3 : (eth a.edges k).t = (eth b.edges x).t
      case neg =>
        have := bad (by simp [meF, natNeg, e2', hx, e3])
        rw [show meF a b m k = 13 by simp [meF, natNeg, e2', hx, e3]] at this
        simp [dw0, dw1, dw2, dw3, f3, f4, f5, o0, o1, o2, hc, hlt, hlt2, hlt3, hx, hx2, hx3, e2', drop_nth hlt, drop_edL hx2, drop_edL hlt2, e3, this]
        exact ⟨rfl, rfl⟩
      by_cases e4 : nth m.nodes y = (eth b.edges x).f
      case neg =>
        have := bad (by simp [meF, natNeg, e2', hx, e3, hy, e4])
        rw [show meF a b m k = 11 by simp [meF, natNeg, e2', hx, e3, hy, e4]] at this
        simp [dw0, dw1, dw2, dw3, f3, f4, f5, o0, o1, o2, hc, hlt, hlt2, hlt3, hx, hx2, hx3, e2', drop_nth hlt, drop_edL hx2, drop_edL hlt2, e3, hy, hy2, drop_nth hy2, e4, this]
        exact ⟨rfl, rfl, rfl⟩
      by_cases e5 : nth m.nodes z = (eth b.edges x).g
      case neg =>
        have := bad (by simp [meF, natNeg, e2', hx, e3, hy, e4, hz, e5])
        rw [show meF a b m k = 11 by simp [meF, natNeg, e2', hx, e3, hy, e4, hz, e5]] at this
        simp [dw0, dw1, dw2, dw3, f3, f4, f5, o0, o1, o2, hc, hlt, hlt2, hlt3, hx, hx2, hx3, e2', drop_nth hlt, drop_edL hx2, drop_edL hlt2, e3, hy, hy2, drop_nth hy2, e4, hz, hz2, drop_nth hz2, e5, this]
        exact ⟨rfl, rfl, rfl⟩
      simp [dw0, dw1, dw2, dw3, f3, f4, f5, o0, o1, o2, hc, hlt, hlt2, hlt3, hx, hx2, hx3, e2', drop_nth hlt, drop_edL hx2, drop_edL hlt2, e3, hy, hy2, drop_nth hy2, e4, hz, hz2, drop_nth hz2, e5, hw]
      exact ⟨rfl, rfl, rfl, lt_succ_all hp (by simp [meF, natNeg, e2', hx, e3, hy, e4, hz, e5])⟩
    · rintro S hc ⟨f3, f4, f5, o0, o1, o2, hp⟩
      rw [fe_zero hp] at e0
      simp [f3, f4, f5, hc, o0, o1, o2, l4, e0]
end Go.Proofs.Ythapbbpdcjmmfaa

/- Contracts: what is to be deleted, what stays, which pairs are identified. -/
namespace Go.Proofs.Ythapbbpdcjmmfaa
open Abs
set_option linter.unusedSimpArgs false
set_option linter.unusedVariables false
attribute [local simp] rn0 rn1 rn2 rn3 rn4 rn5 rn6 rn7 evOp nests Arg.ev St.val St.set St.new sliceOf binInt2 binInt AV.cells rdAt St.live retOf resOf resAll treeOf treeCell treeCells treeTups untree frameOf TV.av TR.av ints edgs prs fillV splice intsOf trees V1.tree bx Gr.v Pa.v opRd opWr opNew opNewR opArgs argsRd argRd Arg.rd AV.refs V1.refs refsL dstL

def goneF (l keep : List Int) (i : Nat) : Option Int := if (i : Int) ∈ keep then none else some (nth l i)
/-- The images of the elements that are not kept. -/
def goneL (l keep : List Int) : List Int := collect (goneF l keep) l.length
def restF (gone : List Int) (i : Nat) : Option Int := if (i : Int) ∈ gone then none else some i
/-- The numbers below n that are not in a list. -/
def restL (n : Nat) (gone : List Int) : List Int := collect (restF gone) n
def pairF (l keep : List Int) (a b : Nat) : Option (Int × Int) := if a < b ∧ nth l a = nth l b ∧ ¬ ((a : Int) ∈ keep ∧ (b : Int) ∈ keep) then some (a, b) else none
/-- The identified pairs. -/
def pairsL (l keep : List Int) : List (Int × Int) := gather (fun a => collect (pairF l keep a) l.length) l.length

def c_gone12 : MFunc := ⟨25, [.tmp 4], .seq (.region [⟨some 4, .mv (.c (.one .nil)), none⟩]) (.seq (.region [⟨some 5, .mv (.c (.one .nil)), none⟩]) (.seq (.seq (.region [⟨some 6, .mv (.c (.one (.t (.int .i64 0)))), none⟩]) (.block 0 (.loop (.seq (.seq (.region [⟨some 7, .mv (.tmp 6), none⟩, ⟨some 8, .mv (.tmp 0), none⟩, ⟨some 9, .len (.tmp 8), none⟩, ⟨some 10, .bin .lss (.tmp 7) (.tmp 9), none⟩]) (.cond (.tmp 10) .skip (.exit 0))) (.seq (.block 1 (.seq (.region [⟨some 13, .mv (.tmp 1), none⟩, ⟨some 14, .mv (.tmp 6), none⟩, ⟨some 15, .call (.c (.one (.fn 74 []))) 322 [.tmp 13, .tmp 14], none⟩, ⟨some 16, .not (.tmp 15), none⟩]) (.cond (.tmp 16) (.region [⟨some 17, .mv (.tmp 5), none⟩, ⟨some 18, .mv (.tmp 0), none⟩, ⟨some 19, .mv (.tmp 6), none⟩, ⟨some 20, .idxA 1 (.tmp 18) (.tmp 19), none⟩, ⟨some 21, .load false 1 (.tmp 20), none⟩, ⟨some 22, .mkrow 389 3 1 1 [.t (.int .i64 0)] [(0, (1, .tmp 21))], none⟩, ⟨some 23, .append 390 3 1 8 (.tmp 17) (.tmp 22), none⟩, ⟨some 5, .mv (.tmp 23), none⟩]) .skip))) (.region [⟨some 11, .mv (.tmp 6), none⟩, ⟨some 12, .bin .add (.tmp 11) (.c (.one (.t (.int .i64 1)))), none⟩, ⟨some 6, .mv (.tmp 12), none⟩])))))) (.seq (.region [⟨some 24, .mv (.tmp 5), none⟩, ⟨some 4, .mv (.tmp 24), none⟩]) .ret)))⟩
theorem k_gone12 : cFn Try.prog Try.f50 = some c_gone12 := by kernel_rfl
theorem gone12_row (l keep : List Int) (hl : tiny l.length) (hk : tiny keep.length) : RowI Try.prog 50 [(false, [ints l]), (false, [ints keep])] 3 (goneL l keep) := by
  refine callRow_W (plain_ints _) (by simp) (by omega) (callS_W (by kernel_rfl) Try.func50 k_gone12 (callable_of Try.func50 (by kernel_rfl)) (by simp [c_gone12]) ?_)
  simp [c_gone12]
  refine loopW_count 6 l.length (fun k S => S.fr 0 = .one (.t (ints l)) ∧ S.fr 1 = .one (.t (ints keep)) ∧ outR 390 3 1 (collect (goneF l keep) k).length ((collect (goneF l keep) k).map (.int .i64)) S.ob (S.fr 5)) hl.small ?_ ?_ ?_
  · simp [collect_zero, outR_nil]
  · rintro k S hlt hw hc ⟨f0, f1, ho⟩
    simp [f0, f1, hc, hlt]
    refine callS_tree (has12_ok keep k hk.small) ?_ ?_ ?_
    · rfl
    · rfl
    by_cases hm : (k : Int) ∈ keep
    · have e : goneF l keep k = none := by simp [goneF, hm]
      simp [f0, f1, hc, hlt, hm, hw, collect_none e, ho]
    · have e : goneF l keep k = some (nth l k) := by simp [goneF, hm]
      have hlen := collect_len (f := goneF l keep) (k := k)
      simp only [tiny] at hl
      simp [f0, f1, hc, hlt, hm, hw, drop_nth hlt]
      refine kApp_grow (ts := [.int .i64 (nth l k)]) rfl (ho.keep fun g => by simp) (by omega) rfl (by omega) (by omega) fun E hE hob hcnt => ?_
      simp [f0, f1, hc, hw, collect_some e]
      simpa using hE
  · rintro S hc ⟨f0, f1, ho⟩
    obtain ⟨u, hu⟩ := ho.one
    rw [hu] at ho
    simp [f0, f1, hc, hu]
    simpa [goneL] using ho.rowIs

def c_rest12 : MFunc := ⟨21, [.tmp 4], .seq (.region [⟨some 4, .mv (.c (.one .nil)), none⟩]) (.seq (.region [⟨some 5, .mv (.c (.one .nil)), none⟩]) (.seq (.seq (.region [⟨some 6, .mv (.c (.one (.t (.int .i64 0)))), none⟩]) (.block 0 (.loop (.seq (.seq (.region [⟨some 7, .mv (.tmp 6), none⟩, ⟨some 8, .mv (.tmp 0), none⟩, ⟨some 9, .bin .lss (.tmp 7) (.tmp 8), none⟩]) (.cond (.tmp 9) .skip (.exit 0))) (.seq (.block 1 (.seq (.region [⟨some 12, .mv (.tmp 1), none⟩, ⟨some 13, .mv (.tmp 6), none⟩, ⟨some 14, .call (.c (.one (.fn 74 []))) 322 [.tmp 12, .tmp 13], none⟩, ⟨some 15, .not (.tmp 14), none⟩]) (.cond (.tmp 15) (.region [⟨some 16, .mv (.tmp 5), none⟩, ⟨some 17, .mv (.tmp 6), none⟩, ⟨some 18, .mkrow 386 3 1 1 [.t (.int .i64 0)] [(0, (1, .tmp 17))], none⟩, ⟨some 19, .append 387 3 1 8 (.tmp 16) (.tmp 18), none⟩, ⟨some 5, .mv (.tmp 19), none⟩]) .skip))) (.region [⟨some 10, .mv (.tmp 6), none⟩, ⟨some 11, .bin .add (.tmp 10) (.c (.one (.t (.int .i64 1)))), none⟩, ⟨some 6, .mv (.tmp 11), none⟩])))))) (.seq (.region [⟨some 20, .mv (.tmp 5), none⟩, ⟨some 4, .mv (.tmp 20), none⟩]) .ret)))⟩
theorem k_rest12 : cFn Try.prog Try.f49 = some c_rest12 := by kernel_rfl
theorem rest12_row (n : Nat) (gone : List Int) (hn : tiny n) (hk : tiny gone.length) : RowI Try.prog 49 [(false, [.int .i64 n]), (false, [ints gone])] 3 (restL n gone) := by
  refine callRow_W (plain_ints _) (by simp) (by omega) (callS_W (by kernel_rfl) Try.func49 k_rest12 (callable_of Try.func49 (by kernel_rfl)) (by simp [c_rest12]) ?_)
  simp [c_rest12]
  refine loopW_count 6 n (fun k S => S.fr 0 = .one (.t (.int .i64 n)) ∧ S.fr 1 = .one (.t (ints gone)) ∧ outR 387 3 1 (collect (restF gone) k).length ((collect (restF gone) k).map (.int .i64)) S.ob (S.fr 5)) hn.small ?_ ?_ ?_
  · simp [collect_zero, outR_nil]
  · rintro k S hlt hw hc ⟨f0, f1, ho⟩
    simp [f0, f1, hc, hlt]
    refine callS_tree (has12_ok gone k hk.small) ?_ ?_ ?_
    · rfl
    · rfl
    by_cases hm : (k : Int) ∈ gone
    · have e : restF gone k = none := by simp [restF, hm]
      simp [f0, f1, hc, hlt, hm, hw, collect_none e, ho]
    · have e : restF gone k = some (k : Int) := by simp [restF, hm]
      have hlen := collect_len (f := restF gone) (k := k)
      simp only [tiny] at hn
      simp [f0, f1, hc, hlt, hm, hw]
      refine kApp_grow (ts := [.int .i64 k]) rfl (ho.keep fun g => by simp) (by omega) rfl (by omega) (by omega) fun E hE hob hcnt => ?_
      simp [f0, f1, hc, hw, collect_some e]
      simpa using hE
  · rintro S hc ⟨f0, f1, ho⟩
    obtain ⟨u, hu⟩ := ho.one
    rw [hu] at ho
    simp [f0, f1, hc, hu]
    simpa [restL] using ho.rowIs

def c_pairs : MFunc := ⟨50, [.tmp 4], .seq (.region [⟨some 4, .mv (.c (.one .nil)), none⟩]) (.seq (.region [⟨some 5, .mv (.c (.one .nil)), none⟩]) (.seq (.seq (.region [⟨some 8, .mv (.tmp 0), none⟩, ⟨some 9, .len (.tmp 8), none⟩, ⟨some 10, .mv (.c (.one (.t (.int .i64 0)))), none⟩]) (.block 0 (.loop (.seq (.region [⟨some 11, .bin .lss (.tmp 10) (.tmp 9), none⟩]) (.seq (.cond (.tmp 11) .skip (.exit 0)) (.seq (.block 1 (.seq (.region [⟨some 12, .mv (.tmp 10), none⟩, ⟨some 6, .mv (.tmp 12), none⟩]) (.seq (.region [⟨some 13, .mv (.tmp 6), none⟩, ⟨some 14, .bin .add (.tmp 13) (.c (.one (.t (.int .i64 1)))), none⟩, ⟨some 7, .mv (.tmp 14), none⟩]) (.block 2 (.loop (.seq (.seq (.region [⟨some 15, .mv (.tmp 7), none⟩, ⟨some 16, .mv (.tmp 0), none⟩, ⟨some 17, .len (.tmp 16), none⟩, ⟨some 18, .bin .lss (.tmp 15) (.tmp 17), none⟩]) (.cond (.tmp 18) .skip (.exit 2))) (.seq (.block 3 (.seq (.draw [[], [], [0, 1], [2], [], [], [4, 5], [6], [3, 7], [8], [9], [9], [10, 11, 9, 9], [12, 9], [13, 12, 9], [14], [14], [15, 16, 14, 14], [17, 14], [14, 18, 9], [9, 19]] [⟨some 21, .mv (.tmp 0), none⟩, ⟨some 22, .mv (.tmp 6), none⟩, ⟨some 23, .idxA 1 (.tmp 21) (.tmp 22), none⟩, ⟨some 24, .load false 1 (.tmp 23), none⟩, ⟨some 25, .mv (.tmp 0), none⟩, ⟨some 26, .mv (.tmp 7), none⟩, ⟨some 27, .idxA 1 (.tmp 25) (.tmp 26), none⟩, ⟨some 28, .load false 1 (.tmp 27), none⟩, ⟨some 29, .bin .eql (.tmp 24) (.tmp 28), none⟩, ⟨some 30, .mv (.tmp 29), none⟩, ⟨some 31, .mv (.tmp 1), some (30, true)⟩, ⟨some 32, .mv (.tmp 6), some (30, true)⟩, ⟨some 33, .call (.c (.one (.fn 33 []))) 524 [.tmp 31, .tmp 32], some (30, true)⟩, ⟨some 34, .not (.tmp 33), some (30, true)⟩, ⟨some 35, .mv (.tmp 34), some (30, true)⟩, ⟨some 36, .mv (.tmp 1), some (35, false)⟩, ⟨some 37, .mv (.tmp 7), some (35, false)⟩, ⟨some 38, .call (.c (.one (.fn 33 []))) 529 [.tmp 36, .tmp 37], some (35, false)⟩, ⟨some 39, .not (.tmp 38), some (35, false)⟩, ⟨some 40, .pick (.tmp 35) (.c (.one (.t (.bool true)))) (.tmp 39), some (30, true)⟩, ⟨some 41, .pick (.tmp 30) (.tmp 40) (.c (.one (.t (.bool false)))), none⟩]) (.cond (.tmp 41) (.region [⟨some 42, .mv (.tmp 5), none⟩, ⟨some 43, .mv (.tmp 6), none⟩, ⟨some 44, .mv (.tmp 7), none⟩, ⟨some 45, .build [.t (.int .i64 0), .t (.int .i64 0)] [(0, (1, .tmp 43)), (1, (1, .tmp 44))], none⟩, ⟨some 46, .mkrow 580 57 2 1 [.t (.int .i64 0), .t (.int .i64 0)] [(0, (2, .tmp 45))], none⟩, ⟨some 47, .append 581 57 2 16 (.tmp 42) (.tmp 46), none⟩, ⟨some 5, .mv (.tmp 47), none⟩]) .skip))) (.region [⟨some 19, .mv (.tmp 7), none⟩, ⟨some 20, .bin .add (.tmp 19) (.c (.one (.t (.int .i64 1)))), none⟩, ⟨some 7, .mv (.tmp 20), none⟩])))))))) (.region [⟨some 48, .bin .add (.tmp 10) (.c (.one (.t (.int .i64 1)))), none⟩, ⟨some 10, .mv (.tmp 48), none⟩]))))))) (.seq (.region [⟨some 49, .mv (.tmp 5), none⟩, ⟨some 4, .mv (.tmp 49), none⟩]) .ret)))⟩
theorem k_pairs : cFn Try.prog Try.f70 = some c_pairs := by kernel_rfl
theorem pairs_row (l keep : List Int) (hl : l.length ≤ 1000) (hk : tiny keep.length) : CallRow Try.prog 70 [(false, [ints l]), (false, [ints keep])] 57 2 (pairsL l keep).length (prL (pairsL l keep)) := by
  have hl' : small l.length := by simp only [small]; omega
  refine callRow_W (plain_prL _) (len_prL _) (by omega) (callS_W (by kernel_rfl) Try.func70 k_pairs (callable_of Try.func70 (by kernel_rfl)) (by simp [c_pairs]) ?_)
  simp [c_pairs]
  refine loopW_count 10 l.length (fun k S => S.fr 0 = .one (.t (ints l)) ∧ S.fr 1 = .one (.t (ints keep)) ∧ S.fr 9 = .one (.t (.int .i64 l.length)) ∧
    outR 581 57 2 (gather (fun a => collect (pairF l keep a) l.length) k).length (prL (gather (fun a => collect (pairF l keep a) l.length) k)) S.ob (S.fr 5)) hl' ?_ ?_ ?_
  · simp [gather_zero, prL, outR_nil]
  · rintro k S hlt hw hc ⟨f0, f1, f9, ho⟩
    simp [f0, f1, f9, hc, hlt, hw]
    have glen := gather_len (f := fun a => collect (pairF l keep a) l.length) (m := l.length) (fun j => collect_len) k
    have g2 : k * l.length ≤ 1000 * 1000 := Nat.mul_le_mul (by omega) hl
    refine loopW_from 7 (k + 1) l.length (fun j S => S.fr 0 = .one (.t (ints l)) ∧ S.fr 1 = .one (.t (ints keep)) ∧ S.fr 9 = .one (.t (.int .i64 l.length)) ∧ S.fr 6 = .one (.t (.int .i64 k)) ∧ S.fr 10 = .one (.t (.int .i64 k)) ∧
      outR 581 57 2 (gather (fun a => collect (pairF l keep a) l.length) k ++ collect (pairF l keep k) j).length (prL (gather (fun a => collect (pairF l keep a) l.length) k ++ collect (pairF l keep k) j)) S.ob (S.fr 5)) (by omega) hl' ?_ ?_ ?_
    · have e : collect (pairF l keep k) (k + 1) = [] := collect_nil fun j hj => by simp [pairF]; omega
      simp [f0, f1, f9, hc, e]
      simpa using ho
    · rintro j S' hkj hlt' hw' hc' ⟨f0, f1, f9, f6, f10, ho⟩
      have hlen : (gather (fun a => collect (pairF l keep a) l.length) k ++ collect (pairF l keep k) j).length ≤ 1000000 + 1000 := by
        have := collect_len (f := pairF l keep k) (k := j)
        rw [List.length_append]
        omega
      by_cases e1 : nth l k = nth l j
      case neg =>
        have e : pairF l keep k j = none := by simp [pairF, e1]
        simp [dw0, dw1, dw2, dw3, f0, f1, f9, f6, f10, hc', hlt', hlt, e1, drop_nth hlt, drop_nth hlt', hw', collect_none e]
        exact ⟨rfl, by simpa using ho⟩
      simp [dw0, dw1, dw2, dw3, f0, f1, f9, f6, f10, hc', hlt', hlt, e1, drop_nth hlt, drop_nth hlt']
      refine dCall_ok (contains_ok keep k hk.small) ?_ ?_ ?_
      · rfl
      · rfl
      by_cases e2 : (k : Int) ∈ keep
      case neg =>
        have e : pairF l keep k j = some ((k : Int), (j : Int)) := by simp [pairF, e1, e2]; omega
        simp [dw0, dw1, dw2, dw3, f0, f1, f9, f6, f10, hc', hlt', hlt, e1, e2, drop_nth hlt, drop_nth hlt', hw']
        refine ⟨rfl, ?_⟩
        refine kApp_grow (ts := [.int .i64 k, .int .i64 j]) rfl (ho.keep fun g => by simp) (by omega) rfl (by omega) (by omega) fun E hE hob hcnt => ?_
        simp [f0, f1, f9, f6, f10, hc', hw', collect_some e]
        simpa [prL, prC, Nat.add_assoc] using hE
      simp [dw0, dw1, dw2, dw3, f0, f1, f9, f6, f10, hc', hlt', hlt, e1, e2, drop_nth hlt, drop_nth hlt']
      refine dCall_ok (contains_ok keep j hk.small) ?_ ?_ ?_
      · rfl
      · rfl
      by_cases e3 : (j : Int) ∈ keep
      case neg =>
        have e : pairF l keep k j = some ((k : Int), (j : Int)) := by simp [pairF, e1, e2, e3]; omega
        simp [dw0, dw1, dw2, dw3, f0, f1, f9, f6, f10, hc', hlt', hlt, e1, e2, e3, drop_nth hlt, drop_nth hlt', hw']
        refine ⟨rfl, ?_⟩
        refine kApp_grow (ts := [.int .i64 k, .int .i64 j]) rfl (ho.keep fun g => by simp) (by omega) rfl (by omega) (by omega) fun E hE hob hcnt => ?_
        simp [f0, f1, f9, f6, f10, hc', hw', collect_some e]
        simpa [prL, prC, Nat.add_assoc] using hE
      case pos =>
        have e : pairF l keep k j = none := by simp [pairF, e1, e2, e3]
        simp [dw0, dw1, dw2, dw3, f0, f1, f9, f6, f10, hc', hlt', hlt, e1, e2, e3, drop_nth hlt, drop_nth hlt', hw', collect_none e]
        exact ⟨rfl, by simpa using ho⟩
    · rintro S' hc' ⟨f0, f1, f9, f6, f10, ho⟩
      simp [f0, f1, f9, hc', f10, hw, gather_succ]
      simpa using ho
  · rintro S hc ⟨f0, f1, f9, ho⟩
    obtain ⟨u, hu⟩ := ho.one
    rw [hu] at ho
    simp [f0, f1, f9, hc, hu]
    simpa [pairsL] using ho.rowIs
def c_ident12 : MFunc := ⟨50, [.tmp 4], .seq (.region [⟨some 4, .mv (.c (.one .nil)), none⟩]) (.seq (.region [⟨some 5, .mv (.c (.one .nil)), none⟩]) (.seq (.seq (.region [⟨some 6, .mv (.c (.one (.t (.int .i64 0)))), none⟩]) (.block 0 (.loop (.seq (.seq (.region [⟨some 8, .mv (.tmp 6), none⟩, ⟨some 9, .mv (.tmp 0), none⟩, ⟨some 10, .len (.tmp 9), none⟩, ⟨some 11, .bin .lss (.tmp 8) (.tmp 10), none⟩]) (.cond (.tmp 11) .skip (.exit 0))) (.seq (.block 1 (.seq (.region [⟨some 14, .mv (.tmp 6), none⟩, ⟨some 15, .bin .add (.tmp 14) (.c (.one (.t (.int .i64 1)))), none⟩, ⟨some 7, .mv (.tmp 15), none⟩]) (.block 2 (.loop (.seq (.seq (.region [⟨some 16, .mv (.tmp 7), none⟩, ⟨some 17, .mv (.tmp 0), none⟩, ⟨some 18, .len (.tmp 17), none⟩, ⟨some 19, .bin .lss (.tmp 16) (.tmp 18), none⟩]) (.cond (.tmp 19) .skip (.exit 2))) (.seq (.block 3 (.seq (.draw [[], [], [0, 1], [2], [], [], [4, 5], [6], [3, 7], [8], [9], [9], [10, 11, 9, 9], [12, 9], [13, 12, 9], [14], [14], [15, 16, 14, 14], [17, 14], [14, 18, 9], [9, 19]] [⟨some 22, .mv (.tmp 0), none⟩, ⟨some 23, .mv (.tmp 6), none⟩, ⟨some 24, .idxA 1 (.tmp 22) (.tmp 23), none⟩, ⟨some 25, .load false 1 (.tmp 24), none⟩, ⟨some 26, .mv (.tmp 0), none⟩, ⟨some 27, .mv (.tmp 7), none⟩, ⟨some 28, .idxA 1 (.tmp 26) (.tmp 27), none⟩, ⟨some 29, .load false 1 (.tmp 28), none⟩, ⟨some 30, .bin .eql (.tmp 25) (.tmp 29), none⟩, ⟨some 31, .mv (.tmp 30), none⟩, ⟨some 32, .mv (.tmp 1), some (31, true)⟩, ⟨some 33, .mv (.tmp 6), some (31, true)⟩, ⟨some 34, .call (.c (.one (.fn 74 []))) 524 [.tmp 32, .tmp 33], some (31, true)⟩, ⟨some 35, .not (.tmp 34), some (31, true)⟩, ⟨some 36, .mv (.tmp 35), some (31, true)⟩, ⟨some 37, .mv (.tmp 1), some (36, false)⟩, ⟨some 38, .mv (.tmp 7), some (36, false)⟩, ⟨some 39, .call (.c (.one (.fn 74 []))) 529 [.tmp 37, .tmp 38], some (36, false)⟩, ⟨some 40, .not (.tmp 39), some (36, false)⟩, ⟨some 41, .pick (.tmp 36) (.c (.one (.t (.bool true)))) (.tmp 40), some (31, true)⟩, ⟨some 42, .pick (.tmp 31) (.tmp 41) (.c (.one (.t (.bool false)))), none⟩]) (.cond (.tmp 42) (.region [⟨some 43, .mv (.tmp 5), none⟩, ⟨some 44, .mv (.tmp 6), none⟩, ⟨some 45, .mv (.tmp 7), none⟩, ⟨some 46, .build [.t (.int .i64 0), .t (.int .i64 0)] [(0, (1, .tmp 44)), (1, (1, .tmp 45))], none⟩, ⟨some 47, .mkrow 580 57 2 1 [.t (.int .i64 0), .t (.int .i64 0)] [(0, (2, .tmp 46))], none⟩, ⟨some 48, .append 581 57 2 16 (.tmp 43) (.tmp 47), none⟩, ⟨some 5, .mv (.tmp 48), none⟩]) .skip))) (.region [⟨some 20, .mv (.tmp 7), none⟩, ⟨some 21, .bin .add (.tmp 20) (.c (.one (.t (.int .i64 1)))), none⟩, ⟨some 7, .mv (.tmp 21), none⟩]))))))) (.region [⟨some 12, .mv (.tmp 6), none⟩, ⟨some 13, .bin .add (.tmp 12) (.c (.one (.t (.int .i64 1)))), none⟩, ⟨some 6, .mv (.tmp 13), none⟩])))))) (.seq (.region [⟨some 49, .mv (.tmp 5), none⟩, ⟨some 4, .mv (.tmp 49), none⟩]) .ret)))⟩
theorem k_ident12 : cFn Try.prog Try.f47 = some c_ident12 := by kernel_rfl
theorem ident12_row (l keep : List Int) (hl : l.length ≤ 1000) (hk : tiny keep.length) : CallRow Try.prog 47 [(false, [ints l]), (false, [ints keep])] 57 2 (pairsL l keep).length (prL (pairsL l keep)) := by
  have hl' : small l.length := by simp only [small]; omega
  refine callRow_W (plain_prL _) (len_prL _) (by omega) (callS_W (by kernel_rfl) Try.func47 k_ident12 (callable_of Try.func47 (by kernel_rfl)) (by simp [c_ident12]) ?_)
  simp [c_ident12]
  refine loopW_count 6 l.length (fun k S => S.fr 0 = .one (.t (ints l)) ∧ S.fr 1 = .one (.t (ints keep)) ∧
    outR 581 57 2 (gather (fun a => collect (pairF l keep a) l.length) k).length (prL (gather (fun a => collect (pairF l keep a) l.length) k)) S.ob (S.fr 5)) hl' ?_ ?_ ?_
  · simp [gather_zero, prL, outR_nil]
  · rintro k S hlt hw hc ⟨f0, f1, ho⟩
    simp [f0, f1, hc, hlt, hw]
    have glen := gather_len (f := fun a => collect (pairF l keep a) l.length) (m := l.length) (fun j => collect_len) k
    have g2 : k * l.length ≤ 1000 * 1000 := Nat.mul_le_mul (by omega) hl
    refine loopW_from 7 (k + 1) l.length (fun j S => S.fr 0 = .one (.t (ints l)) ∧ S.fr 1 = .one (.t (ints keep)) ∧ S.fr 6 = .one (.t (.int .i64 k)) ∧
      outR 581 57 2 (gather (fun a => collect (pairF l keep a) l.length) k ++ collect (pairF l keep k) j).length (prL (gather (fun a => collect (pairF l keep a) l.length) k ++ collect (pairF l keep k) j)) S.ob (S.fr 5)) (by omega) hl' ?_ ?_ ?_
    · have e : collect (pairF l keep k) (k + 1) = [] := collect_nil fun j hj => by simp [pairF]; omega
      simp [f0, f1, hc, e]
      simpa using ho
    · rintro j S' hkj hlt' hw' hc' ⟨f0, f1, f6, ho⟩
      have hlen : (gather (fun a => collect (pairF l keep a) l.length) k ++ collect (pairF l keep k) j).length ≤ 1000000 + 1000 := by
        have := collect_len (f := pairF l keep k) (k := j)
        rw [List.length_append]
        omega
      by_cases e1 : nth l k = nth l j
      case neg =>
        have e : pairF l keep k j = none := by simp [pairF, e1]
        simp [dw0, dw1, dw2, dw3, f0, f1, f6, hc', hlt', hlt, e1, drop_nth hlt, drop_nth hlt', hw', collect_none e]
        exact ⟨rfl, by simpa using ho⟩
      simp [dw0, dw1, dw2, dw3, f0, f1, f6, hc', hlt', hlt, e1, drop_nth hlt, drop_nth hlt']
      refine dCall_ok (has12_ok keep k hk.small) ?_ ?_ ?_
      · rfl
      · rfl
      by_cases e2 : (k : Int) ∈ keep
      case neg =>
        have e : pairF l keep k j = some ((k : Int), (j : Int)) := by simp [pairF, e1, e2]; omega
        simp [dw0, dw1, dw2, dw3, f0, f1, f6, hc', hlt', hlt, e1, e2, drop_nth hlt, drop_nth hlt', hw']
        refine ⟨rfl, ?_⟩
        refine kApp_grow (ts := [.int .i64 k, .int .i64 j]) rfl (ho.keep fun g => by simp) (by omega) rfl (by omega) (by omega) fun E hE hob hcnt => ?_
        simp [f0, f1, f6, hc', hw', collect_some e]
        simpa [prL, prC, Nat.add_assoc] using hE
      simp [dw0, dw1, dw2, dw3, f0, f1, f6, hc', hlt', hlt, e1, e2, drop_nth hlt, drop_nth hlt']
      refine dCall_ok (has12_ok keep j hk.small) ?_ ?_ ?_
      · rfl
      · rfl
      by_cases e3 : (j : Int) ∈ keep
      case neg =>
        have e : pairF l keep k j = some ((k : Int), (j : Int)) := by simp [pairF, e1, e2, e3]; omega
        simp [dw0, dw1, dw2, dw3, f0, f1, f6, hc', hlt', hlt, e1, e2, e3, drop_nth hlt, drop_nth hlt', hw']
        refine ⟨rfl, ?_⟩
        refine kApp_grow (ts := [.int .i64 k, .int .i64 j]) rfl (ho.keep fun g => by simp) (by omega) rfl (by omega) (by omega) fun E hE hob hcnt => ?_
        simp [f0, f1, f6, hc', hw', collect_some e]
        simpa [prL, prC, Nat.add_assoc] using hE
      case pos =>
        have e : pairF l keep k j = none := by simp [pairF, e1, e2, e3]
        simp [dw0, dw1, dw2, dw3, f0, f1, f6, hc', hlt', hlt, e1, e2, e3, drop_nth hlt, drop_nth hlt', hw', collect_none e]
        exact ⟨rfl, by simpa using ho⟩
    · rintro S' hc' ⟨f0, f1, f6, ho⟩
      simp [f0, f1, f6, hc', hw, gather_succ]
      simpa using ho
  · rintro S hc ⟨f0, f1, ho⟩
    obtain ⟨u, hu⟩ := ho.one
    rw [hu] at ho
    simp [f0, f1, hc, hu]
    simpa [pairsL] using ho.rowIs
end Go.Proofs.Ythapbbpdcjmmfaa

/- Contracts: what the program deletes and keeps, dangling edges. -/
namespace Go.Proofs.Ythapbbpdcjmmfaa
open Abs
set_option linter.unusedSimpArgs false
set_option linter.unusedVariables false
attribute [local simp] rn0 rn1 rn2 rn3 rn4 rn5 rn6 rn7 evOp nests Arg.ev St.val St.set St.new sliceOf binInt2 binInt AV.cells rdAt St.live retOf resOf resAll treeOf treeCell treeCells treeTups untree frameOf TV.av TR.av ints edgs prs fillV splice intsOf trees V1.tree bx Gr.v Pa.v

/-- A case: two graphs, a part and a morphism, as the eight cells of a gluing. -/
def gluV (l g : Gr) (p m : Pa) : TV := (true, [ints l.nodes, edgs l.edges, ints g.nodes, edgs g.edges, ints p.nodes, ints p.edges, ints m.nodes, ints m.edges])

def c_deleted : MFunc := ⟨27, [.tmp 2], .seq (.region [⟨some 1, .box 0 77 (.tmp 0), none⟩, ⟨some 2, .mv (.c (.one .nil)), none⟩]) (.seq (.region [⟨some 3, .mv (.c (.one .nil)), none⟩]) (.seq (.seq (.region [⟨some 6, .fieldA 6 (.tmp 1), none⟩, ⟨some 7, .fieldA 0 (.tmp 6), none⟩, ⟨some 8, .load false 1 (.tmp 7), none⟩, ⟨some 9, .len (.tmp 8), none⟩, ⟨some 10, .mv (.c (.one (.t (.int .i64 0)))), none⟩]) (.block 0 (.loop (.seq (.region [⟨some 11, .bin .lss (.tmp 10) (.tmp 9), none⟩]) (.seq (.cond (.tmp 11) .skip (.exit 0)) (.seq (.block 1 (.seq (.region [⟨some 12, .mv (.tmp 10), none⟩, ⟨some 13, .idxA 1 (.tmp 8) (.tmp 10), none⟩, ⟨some 14, .load false 1 (.tmp 13), none⟩, ⟨some 4, .mv (.tmp 12), none⟩, ⟨some 5, .mv (.tmp 14), none⟩]) (.seq (.region [⟨some 15, .fieldA 4 (.tmp 1), none⟩, ⟨some 16, .fieldA 0 (.tmp 15), none⟩, ⟨some 17, .load false 1 (.tmp 16), none⟩, ⟨some 18, .mv (.tmp 4), none⟩, ⟨some 19, .call (.c (.one (.fn 33 []))) 324 [.tmp 17, .tmp 18], none⟩, ⟨some 20, .not (.tmp 19), none⟩]) (.cond (.tmp 20) (.region [⟨some 21, .mv (.tmp 3), none⟩, ⟨some 22, .mv (.tmp 5), none⟩, ⟨some 23, .mkrow 386 3 1 1 [.t (.int .i64 0)] [(0, (1, .tmp 22))], none⟩, ⟨some 24, .append 387 3 1 8 (.tmp 21) (.tmp 23), none⟩, ⟨some 3, .mv (.tmp 24), none⟩]) .skip)))) (.region [⟨some 25, .bin .add (.tmp 10) (.c (.one (.t (.int .i64 1)))), none⟩, ⟨some 10, .mv (.tmp 25), none⟩]))))))) (.seq (.region [⟨some 26, .mv (.tmp 3), none⟩, ⟨some 2, .mv (.tmp 26), none⟩]) .ret)))⟩
theorem k_deleted : cFn Try.prog Try.f71 = some c_deleted := by kernel_rfl
theorem deleted_row (l g : Gr) (p m : Pa) (hm : tiny m.nodes.length) (hp : tiny p.nodes.length) : RowI Try.prog 71 [gluV l g p m] 3 (goneL m.nodes p.nodes) := by
  refine callRow_W (plain_ints _) (by simp) (by omega) (callS_W (by kernel_rfl) Try.func71 k_deleted (callable_of Try.func71 (by kernel_rfl)) (by simp [c_deleted]) ?_)
  simp [c_deleted, gluV]
  refine loopW_count 10 m.nodes.length (fun k S => S.fr 1 = .one (.ptr (0, 0) 0) ∧ S.fr 8 = .one (.t (ints m.nodes)) ∧ S.fr 9 = .one (.t (.int .i64 m.nodes.length)) ∧ S.ob (0, 0) = some (bx 77 ((gluV l g p m).2.map .t)) ∧
    outR 387 3 1 (collect (goneF m.nodes p.nodes) k).length ((collect (goneF m.nodes p.nodes) k).map (.int .i64)) S.ob (S.fr 3)) hm.small ?_ ?_ ?_
  · simp [gluV, collect_zero, outR_nil]
  · rintro k S hlt hw hc ⟨f1, f8, f9, o0, ho⟩
    simp [gluV, f1, f8, f9, o0, hc, hlt, drop_nth hlt]
    refine callS_tree (contains_ok p.nodes k hp.small) ?_ ?_ ?_
    · rfl
    · rfl
    by_cases hm' : (k : Int) ∈ p.nodes
    · have e : goneF m.nodes p.nodes k = none := by simp [goneF, hm']
      simp [gluV, f1, f8, f9, o0, hc, hlt, hm', hw, collect_none e, ho]
    · have e : goneF m.nodes p.nodes k = some (nth m.nodes k) := by simp [goneF, hm']
      have hlen := collect_len (f := goneF m.nodes p.nodes) (k := k)
      simp only [tiny] at hm
      simp [gluV, f1, f8, f9, o0, hc, hlt, hm', hw, drop_nth hlt]
      refine kApp_grow (ts := [.int .i64 (nth m.nodes k)]) rfl (ho.keep fun g => by simp) (by omega) rfl (by omega) (by omega) fun E hE hob hcnt => ?_
      simp [gluV, f1, f8, f9, hc, hw, collect_some e, hob, o0]
      simpa using hE
  · rintro S hc ⟨f1, f8, f9, o0, ho⟩
    obtain ⟨u, hu⟩ := ho.one
    rw [hu] at ho
    simp [f1, f8, f9, hc, hu]
    simpa [goneL] using ho.rowIs

def danglF (g : Gr) (m : Pa) (gone : List Int) (i : Nat) : Option Int := if (i : Int) ∈ m.edges then none else if (eth g.edges i).f ∈ gone then some i else if (eth g.edges i).g ∈ gone then some i else none
/-- The dangling edges. -/
def danglL (g : Gr) (p m : Pa) : List Int := collect (danglF g m (goneL m.nodes p.nodes)) g.edges.length

theorem goneL_len {l k : List Int} : (goneL l k).length ≤ l.length := collect_len

def c_dangling : MFunc := ⟨42, [.tmp 2], .seq (.region [⟨some 1, .box 0 77 (.tmp 0), none⟩, ⟨some 2, .mv (.c (.one .nil)), none⟩]) (.seq (.region [⟨some 7, .load true 8 (.tmp 1), none⟩, ⟨some 8, .call (.c (.one (.fn 71 []))) 65 [.tmp 7], none⟩, ⟨some 3, .mv (.tmp 8), none⟩]) (.seq (.region [⟨some 4, .mv (.c (.one .nil)), none⟩]) (.seq (.seq (.region [⟨some 9, .fieldA 2 (.tmp 1), none⟩, ⟨some 10, .fieldA 1 (.tmp 9), none⟩, ⟨some 11, .load false 1 (.tmp 10), none⟩, ⟨some 12, .len (.tmp 11), none⟩, ⟨some 13, .mv (.c (.one (.t (.int .i64 0)))), none⟩]) (.block 0 (.loop (.seq (.region [⟨some 14, .bin .lss (.tmp 13) (.tmp 12), none⟩]) (.seq (.cond (.tmp 14) .skip (.exit 0)) (.seq (.block 1 (.seq (.region [⟨some 15, .mv (.tmp 13), none⟩, ⟨some 16, .idxA 3 (.tmp 11) (.tmp 13), none⟩, ⟨some 17, .load true 3 (.tmp 16), none⟩, ⟨some 6, .alloc 323 73 [.t (.int .i64 0), .t (.int .i64 0), .t (.int .i64 0)], none⟩, ⟨some 5, .mv (.tmp 15), none⟩, ⟨none, .store 3 (.tmp 6) (.tmp 17), none⟩]) (.seq (.region [⟨some 18, .fieldA 6 (.tmp 1), none⟩, ⟨some 19, .fieldA 1 (.tmp 18), none⟩, ⟨some 20, .load false 1 (.tmp 19), none⟩, ⟨some 21, .mv (.tmp 5), none⟩, ⟨some 22, .call (.c (.one (.fn 33 []))) 388 [.tmp 20, .tmp 21], none⟩, ⟨some 23, .not (.tmp 22), none⟩, ⟨some 24, .mv (.tmp 23), none⟩, ⟨some 25, .mv (.tmp 3), some (24, true)⟩, ⟨some 26, .fieldA 1 (.tmp 6), some (24, true)⟩, ⟨some 27, .load false 1 (.tmp 26), some (24, true)⟩, ⟨some 28, .call (.c (.one (.fn 33 []))) 394 [.tmp 25, .tmp 27], some (24, true)⟩, ⟨some 29, .mv (.tmp 28), some (24, true)⟩, ⟨some 30, .mv (.tmp 3), some (29, false)⟩, ⟨some 31, .fieldA 2 (.tmp 6), some (29, false)⟩, ⟨some 32, .load false 1 (.tmp 31), some (29, false)⟩, ⟨some 33, .call (.c (.one (.fn 33 []))) 399 [.tmp 30, .tmp 32], some (29, false)⟩, ⟨some 34, .pick (.tmp 29) (.c (.one (.t (.bool true)))) (.tmp 33), some (24, true)⟩, ⟨some 35, .pick (.tmp 24) (.tmp 34) (.c (.one (.t (.bool false)))), none⟩]) (.cond (.tmp 35) (.region [⟨some 36, .mv (.tmp 4), none⟩, ⟨some 37, .mv (.tmp 5), none⟩, ⟨some 38, .mkrow 450 3 1 1 [.t (.int .i64 0)] [(0, (1, .tmp 37))], none⟩, ⟨some 39, .append 451 3 1 8 (.tmp 36) (.tmp 38), none⟩, ⟨some 4, .mv (.tmp 39), none⟩]) .skip)))) (.region [⟨some 40, .bin .add (.tmp 13) (.c (.one (.t (.int .i64 1)))), none⟩, ⟨some 13, .mv (.tmp 40), none⟩]))))))) (.seq (.region [⟨some 41, .mv (.tmp 4), none⟩, ⟨some 2, .mv (.tmp 41), none⟩]) .ret))))⟩
theorem k_dangling : cFn Try.prog Try.f43 = some c_dangling := by kernel_rfl
theorem dangling_row (l g : Gr) (p m : Pa) (hg : tinyG g) (hm : tinyP m) (hp : tinyP p) : RowI Try.prog 43 [gluV l g p m] 3 (danglL g p m) := by
  refine callRow_W (plain_ints _) (by simp) (by omega) (callS_W (by kernel_rfl) Try.func43 k_dangling (callable_of Try.func43 (by kernel_rfl)) (by simp [c_dangling]) ?_)
  simp [c_dangling, gluV]
  refine callS_tree (deleted_row l g p m hm.1 hp.1).ok ?_ ?_ ?_
  · rfl
  · rfl
  simp [gluV]
  have hgl : tiny (goneL m.nodes p.nodes).length := Nat.le_trans goneL_len hm.1
  refine loopW_count 13 g.edges.length (fun k S => S.fr 1 = .one (.ptr (0, 0) 0) ∧ S.fr 3 = .one (.t (ints (goneL m.nodes p.nodes))) ∧ S.fr 11 = .one (.t (edgs g.edges)) ∧ S.fr 12 = .one (.t (.int .i64 g.edges.length)) ∧ S.ob (0, 0) = some (bx 77 ((gluV l g p m).2.map .t)) ∧
    outR 451 3 1 (collect (danglF g m (goneL m.nodes p.nodes)) k).length ((collect (danglF g m (goneL m.nodes p.nodes)) k).map (.int .i64)) S.ob (S.fr 4)) hg.2.small ?_ ?_ ?_
  · simp [gluV, collect_zero, outR_nil]
  · rintro k S hlt hw hc ⟨f1, f3, f11, f12, o0, ho⟩
    have hlt3 : k * 3 < g.edges.length * 3 := by omega
    have hlen := collect_len (f := danglF g m (goneL m.nodes p.nodes)) (k := k)
    have hg2 := hg.2
    simp only [tiny] at hg2
    simp [gluV, f1, f3, f11, f12, o0, hc, hlt, hlt3, drop_edL hlt]
    refine callS_tree (contains_ok m.edges k hm.2.small) ?_ ?_ ?_
    · rfl
    · rfl
    by_cases e1 : (k : Int) ∈ m.edges
    · have e : danglF g m (goneL m.nodes p.nodes) k = none := by simp [danglF, e1]
      simp [gluV, f1, f3, f11, f12, o0, hc, hw, hlt, hlt3, e1, collect_none e]
      exact ho.keep fun g => by simp
    simp [gluV, f1, f3, f11, f12, o0, hc, hlt, hlt3, e1]
    refine callS_tree (contains_ok (goneL m.nodes p.nodes) (eth g.edges k).f hgl.small) ?_ ?_ ?_
    · rfl
    · rfl
    by_cases e2 : (eth g.edges k).f ∈ goneL m.nodes p.nodes
    · have e : danglF g m (goneL m.nodes p.nodes) k = some (k : Int) := by simp [danglF, e1, e2]
      simp [gluV, f1, f3, f11, f12, o0, hc, hlt, hlt3, e1, e2]
      refine kApp_grow (ts := [.int .i64 k]) rfl (ho.keep fun g => by simp) (by omega) rfl (by omega) (by omega) fun E hE hob hcnt => ?_
      simp [gluV, f1, f3, f11, f12, hc, hw, collect_some e, hob, o0]
      simpa using hE
    simp [gluV, f1, f3, f11, f12, o0, hc, hlt, hlt3, e1, e2]
    refine callS_tree (contains_ok (goneL m.nodes p.nodes) (eth g.edges k).g hgl.small) ?_ ?_ ?_
    · rfl
    · rfl
    by_cases e3 : (eth g.edges k).g ∈ goneL m.nodes p.nodes
    · have e : danglF g m (goneL m.nodes p.nodes) k = some (k : Int) := by simp [danglF, e1, e2, e3]
      simp [gluV, f1, f3, f11, f12, o0, hc, hlt, hlt3, e1, e2, e3]
      refine kApp_grow (ts := [.int .i64 k]) rfl (ho.keep fun g => by simp) (by omega) rfl (by omega) (by omega) fun E hE hob hcnt => ?_
      simp [gluV, f1, f3, f11, f12, hc, hw, collect_some e, hob, o0]
      simpa using hE
    · have e : danglF g m (goneL m.nodes p.nodes) k = none := by simp [danglF, e1, e2, e3]
      simp [gluV, f1, f3, f11, f12, o0, hc, hw, hlt, hlt3, e1, e2, e3, collect_none e]
      exact ho.keep fun g => by simp
  · rintro S hc ⟨f1, f3, f11, f12, o0, ho⟩
    obtain ⟨u, hu⟩ := ho.one
    rw [hu] at ho
    simp [f1, f11, f12, hc, hu]
    simpa [danglL] using ho.rowIs
end Go.Proofs.Ythapbbpdcjmmfaa

/- Contracts: what the program keeps of the graph; the errors of a case; complements. -/
namespace Go.Proofs.Ythapbbpdcjmmfaa
open Abs
set_option linter.unusedSimpArgs false
set_option linter.unusedVariables false
attribute [local simp] rn0 rn1 rn2 rn3 rn4 rn5 rn6 rn7 evOp nests Arg.ev St.val St.set St.new sliceOf binInt2 binInt AV.cells rdAt St.live retOf resOf resAll treeOf treeCell treeCells treeTups untree frameOf TV.av TR.av ints edgs prs fillV splice intsOf trees V1.tree bx Gr.v Pa.v

/-- A row of marks. -/
def markC (g : List Int) (n : Nat) : List V1 := (List.range n).map fun (i : Nat) => V1.t (.bool (decide ((i : Int) ∈ g)))
theorem len_mark {g : List Int} {n : Nat} : (markC g n).length = n := by simp [markC]
theorem mark_nil {n : Nat} : List.replicate n (V1.t (.bool false)) = markC [] n := by
  apply List.ext_getElem
  · simp [len_mark]
  · intro i h1 h2
    simp [markC]
theorem drop_mark {g : List Int} {n k : Nat} (h : k < n) : (markC g n).drop k = .t (.bool (decide ((k : Int) ∈ g))) :: (markC g n).drop (k + 1) := by
  rw [List.drop_eq_getElem_cons (by rw [len_mark]; exact h)]
  simp [markC]
theorem mark_set {g : List Int} {n x : Nat} (h : x < n) : (markC g n).take x ++ .t (.bool true) :: (markC g n).drop (x + 1) = markC (g ++ [(x : Int)]) n := by
  apply List.ext_getElem
  · simp [len_mark]
    omega
  · intro i h1 h2
    rw [len_mark] at h2
    rw [List.getElem_append]
    split
    · rename_i hi
      simp [len_mark] at hi
      have : ¬ (i : Int) = (x : Int) := by omega
      simp [markC, this]
    · rename_i hi
      simp [len_mark] at hi
      by_cases e : i = x
      · subst e
        simp [markC, len_mark, Nat.min_eq_left (Nat.le_of_lt h)]
      · have e1 : x < i := by omega
        obtain ⟨d, hd⟩ : ∃ d, i = x + 1 + d := ⟨i - x - 1, by omega⟩
        subst hd
        have : ¬ ((x + 1 + d : Nat) : Int) = (x : Int) := by omega
        have e2 : x + 1 + d - ((markC g n).take x).length = d + 1 := by simp [len_mark]; omega
        simp only [e2, List.getElem_cons_succ, List.getElem_drop]
        simp [markC]
        omega

def c_rest : MFunc := ⟨45, [.tmp 6], .seq (.region [⟨some 6, .mv (.c (.one .nil)), none⟩]) (.seq (.region [⟨some 13, .mv (.tmp 0), none⟩, ⟨some 14, .make 65 4 1 1 [.t (.bool false)] (.tmp 13) (.tmp 13), none⟩, ⟨some 7, .mv (.tmp 14), none⟩]) (.seq (.seq (.region [⟨some 15, .mv (.tmp 1), none⟩, ⟨some 16, .len (.tmp 15), none⟩, ⟨some 17, .mv (.c (.one (.t (.int .i64 0)))), none⟩]) (.block 0 (.loop (.seq (.region [⟨some 18, .bin .lss (.tmp 17) (.tmp 16), none⟩]) (.seq (.cond (.tmp 18) .skip (.exit 0)) (.seq (.block 1 (.seq (.region [⟨some 19, .mv (.tmp 17), none⟩, ⟨some 20, .idxA 1 (.tmp 15) (.tmp 17), none⟩, ⟨some 21, .load false 1 (.tmp 20), none⟩, ⟨some 8, .mv (.tmp 19), none⟩, ⟨some 9, .mv (.tmp 21), none⟩]) (.seq (.region [⟨some 22, .mv (.tmp 2), none⟩, ⟨some 23, .mv (.tmp 8), none⟩, ⟨some 24, .call (.c (.one (.fn 33 []))) 322 [.tmp 22, .tmp 23], none⟩, ⟨some 25, .not (.tmp 24), none⟩]) (.cond (.tmp 25) (.region [⟨some 26, .mv (.tmp 7), none⟩, ⟨some 27, .mv (.tmp 9), none⟩, ⟨some 28, .idxA 1 (.tmp 26) (.tmp 27), none⟩, ⟨none, .store 1 (.tmp 28) (.c (.one (.t (.bool true)))), none⟩]) .skip)))) (.region [⟨some 29, .bin .add (.tmp 17) (.c (.one (.t (.int .i64 1)))), none⟩, ⟨some 17, .mv (.tmp 29), none⟩]))))))) (.seq (.region [⟨some 10, .mv (.c (.one .nil)), none⟩]) (.seq (.seq (.region [⟨some 30, .mv (.tmp 7), none⟩, ⟨some 31, .len (.tmp 30), none⟩, ⟨some 32, .mv (.c (.one (.t (.int .i64 0)))), none⟩]) (.block 2 (.loop (.seq (.region [⟨some 33, .bin .lss (.tmp 32) (.tmp 31), none⟩]) (.seq (.cond (.tmp 33) .skip (.exit 2)) (.seq (.block 3 (.seq (.region [⟨some 34, .mv (.tmp 32), none⟩, ⟨some 35, .idxA 1 (.tmp 30) (.tmp 32), none⟩, ⟨some 36, .load false 1 (.tmp 35), none⟩, ⟨some 11, .mv (.tmp 34), none⟩, ⟨some 12, .mv (.tmp 36), none⟩]) (.seq (.region [⟨some 37, .mv (.tmp 12), none⟩, ⟨some 38, .not (.tmp 37), none⟩]) (.cond (.tmp 38) (.region [⟨some 39, .mv (.tmp 10), none⟩, ⟨some 40, .mv (.tmp 11), none⟩, ⟨some 41, .mkrow 834 3 1 1 [.t (.int .i64 0)] [(0, (1, .tmp 40))], none⟩, ⟨some 42, .append 835 3 1 8 (.tmp 39) (.tmp 41), none⟩, ⟨some 10, .mv (.tmp 42), none⟩]) .skip)))) (.region [⟨some 43, .bin .add (.tmp 32) (.c (.one (.t (.int .i64 1)))), none⟩, ⟨some 32, .mv (.tmp 43), none⟩]))))))) (.seq (.region [⟨some 44, .mv (.tmp 10), none⟩, ⟨some 6, .mv (.tmp 44), none⟩]) .ret)))))⟩
theorem k_rest : cFn Try.prog Try.f44 = some c_rest := by kernel_rfl
theorem rest_row (n : Nat) (l keep : List Int) (hn : tiny n) (hl : tiny l.length) (hk : tiny keep.length) (hr : ∀ x ∈ l, 0 ≤ x ∧ x < n) : RowI Try.prog 44 [(false, [.int .i64 n]), (false, [ints l]), (false, [ints keep])] 3 (restL n (goneL l keep)) := by
  refine callRow_W (plain_ints _) (by simp) (by omega) (callS_W (by kernel_rfl) Try.func44 k_rest (callable_of Try.func44 (by kernel_rfl)) (by simp [c_rest]) ?_)
  have hn' := hn
  simp only [tiny] at hn'
  have hn1 : n ≤ 140737488355328 := by omega
  have hn2 : (n : Int) ≤ 9223372036854775807 := by omega
  simp [c_rest, hn1, hn2, mark_nil]
  refine loopW_count 17 l.length (fun k S => S.fr 7 = .one (.row (65, 0)) ∧ S.fr 2 = .one (.t (ints keep)) ∧ S.fr 15 = .one (.t (ints l)) ∧ S.fr 16 = .one (.t (.int .i64 l.length)) ∧ S.ob (65, 0) = some ⟨true, true, false, 1, n, 4, markC (collect (goneF l keep) k) n⟩) hl.small ?_ ?_ ?_
  · simp [collect_zero]
  · rintro k S hlt hw hc ⟨f7, f2, f15, f16, o0⟩
    simp [f7, f2, f15, f16, o0, hc, hlt, drop_nth hlt]
    refine callS_tree (contains_ok keep k hk.small) ?_ ?_ ?_
    · rfl
    · rfl
    by_cases hm : (k : Int) ∈ keep
    · have e : goneF l keep k = none := by simp [goneF, hm]
      simp [f7, f2, f15, f16, o0, hc, hlt, hm, hw, collect_none e]
    · have e : goneF l keep k = some (nth l k) := by simp [goneF, hm]
      obtain ⟨q1, q2⟩ := hr _ (nth_mem hlt)
      obtain ⟨x, hx⟩ := Int.eq_ofNat_of_zero_le q1
      have hx2 : x < n := by omega
      have hx3 : x + 1 ≤ n := by omega
      simp [f7, f2, f15, f16, o0, hc, hlt, hm, hw, hx, hx2, hx3, len_mark, collect_some e, mark_set hx2]
  · rintro S hc ⟨f7, f2, f15, f16, o0⟩
    simp [f7, f2, f15, f16, o0, hc]
    refine loopW_count 32 n (fun k S => S.fr 30 = .one (.row (65, 0)) ∧ S.fr 31 = .one (.t (.int .i64 n)) ∧ S.ob (65, 0) = some ⟨true, true, false, 1, n, 4, markC (goneL l keep) n⟩ ∧
      outR 835 3 1 (collect (restF (goneL l keep)) k).length ((collect (restF (goneL l keep)) k).map (.int .i64)) S.ob (S.fr 10)) hn.small ?_ ?_ ?_
    · simp [collect_zero, outR_nil, o0, goneL]
    · rintro k S hlt hw hc ⟨f30, f31, o0, ho⟩
      have hlt2 : k + 1 ≤ n := by omega
      have hlen := collect_len (f := restF (goneL l keep)) (k := k)
      by_cases hm : (k : Int) ∈ goneL l keep
      · have e : restF (goneL l keep) k = none := by simp [restF, hm]
        simp [f30, f31, o0, hc, hlt, hlt2, len_mark, drop_mark hlt, hm, hw, collect_none e, ho]
      · have e : restF (goneL l keep) k = some (k : Int) := by simp [restF, hm]
        simp [f30, f31, o0, hc, hlt, hlt2, len_mark, drop_mark hlt, hm, hw]
        refine kApp_grow (ts := [.int .i64 k]) rfl (ho.keep fun g => by simp) (by omega) rfl (by omega) (by omega) fun E hE hob hcnt => ?_
        simp [f30, f31, hc, hw, collect_some e, hob, o0]
        simpa using hE
    · rintro S hc ⟨f30, f31, o0, ho⟩
      obtain ⟨u, hu⟩ := ho.one
      rw [hu] at ho
      simp [f30, f31, hc, hu]
      simpa [restL] using ho.rowIs

def c_dangl12 : MFunc := ⟨54, [.tmp 8], .seq (.region [⟨some 4, .box 0 25 (.tmp 0), none⟩, ⟨some 5, .box 1 25 (.tmp 1), none⟩, ⟨some 6, .box 2 27 (.tmp 2), none⟩, ⟨some 7, .box 3 28 (.tmp 3), none⟩, ⟨some 8, .mv (.c (.one .nil)), none⟩]) (.seq (.region [⟨some 9, .mv (.c (.one .nil)), none⟩]) (.seq (.region [⟨some 12, .fieldA 0 (.tmp 7), none⟩, ⟨some 13, .load false 1 (.tmp 12), none⟩, ⟨some 14, .fieldA 0 (.tmp 6), none⟩, ⟨some 15, .load false 1 (.tmp 14), none⟩, ⟨some 16, .call (.c (.one (.fn 50 []))) 132 [.tmp 13, .tmp 15], none⟩, ⟨some 10, .mv (.tmp 16), none⟩]) (.seq (.seq (.region [⟨some 11, .mv (.c (.one (.t (.int .i64 0)))), none⟩]) (.block 0 (.loop (.seq (.seq (.region [⟨some 17, .mv (.tmp 11), none⟩, ⟨some 18, .fieldA 1 (.tmp 5), none⟩, ⟨some 19, .load false 1 (.tmp 18), none⟩, ⟨some 20, .len (.tmp 19), none⟩, ⟨some 21, .bin .lss (.tmp 17) (.tmp 20), none⟩]) (.cond (.tmp 21) .skip (.exit 0))) (.seq (.block 1 (.seq (.region [⟨some 24, .fieldA 1 (.tmp 7), none⟩, ⟨some 25, .load false 1 (.tmp 24), none⟩, ⟨some 26, .mv (.tmp 11), none⟩, ⟨some 27, .call (.c (.one (.fn 74 []))) 387 [.tmp 25, .tmp 26], none⟩, ⟨some 28, .not (.tmp 27), none⟩, ⟨some 29, .mv (.tmp 28), none⟩, ⟨some 30, .mv (.tmp 10), some (29, true)⟩, ⟨some 31, .fieldA 1 (.tmp 5), some (29, true)⟩, ⟨some 32, .load false 1 (.tmp 31), some (29, true)⟩, ⟨some 33, .mv (.tmp 11), some (29, true)⟩, ⟨some 34, .idxA 3 (.tmp 32) (.tmp 33), some (29, true)⟩, ⟨some 35, .fieldA 1 (.tmp 34), some (29, true)⟩, ⟨some 36, .load false 1 (.tmp 35), some (29, true)⟩, ⟨some 37, .call (.c (.one (.fn 74 []))) 397 [.tmp 30, .tmp 36], some (29, true)⟩, ⟨some 38, .mv (.tmp 37), some (29, true)⟩, ⟨some 39, .mv (.tmp 10), some (38, false)⟩, ⟨some 40, .fieldA 1 (.tmp 5), some (38, false)⟩, ⟨some 41, .load false 1 (.tmp 40), some (38, false)⟩, ⟨some 42, .mv (.tmp 11), some (38, false)⟩, ⟨some 43, .idxA 3 (.tmp 41) (.tmp 42), some (38, false)⟩, ⟨some 44, .fieldA 2 (.tmp 43), some (38, false)⟩, ⟨some 45, .load false 1 (.tmp 44), some (38, false)⟩, ⟨some 46, .call (.c (.one (.fn 74 []))) 406 [.tmp 39, .tmp 45], some (38, false)⟩, ⟨some 47, .pick (.tmp 38) (.c (.one (.t (.bool true)))) (.tmp 46), some (29, true)⟩, ⟨some 48, .pick (.tmp 29) (.tmp 47) (.c (.one (.t (.bool false)))), none⟩]) (.cond (.tmp 48) (.region [⟨some 49, .mv (.tmp 9), none⟩, ⟨some 50, .mv (.tmp 11), none⟩, ⟨some 51, .mkrow 450 3 1 1 [.t (.int .i64 0)] [(0, (1, .tmp 50))], none⟩, ⟨some 52, .append 451 3 1 8 (.tmp 49) (.tmp 51), none⟩, ⟨some 9, .mv (.tmp 52), none⟩]) .skip))) (.region [⟨some 22, .mv (.tmp 11), none⟩, ⟨some 23, .bin .add (.tmp 22) (.c (.one (.t (.int .i64 1)))), none⟩, ⟨some 11, .mv (.tmp 23), none⟩])))))) (.seq (.region [⟨some 53, .mv (.tmp 9), none⟩, ⟨some 8, .mv (.tmp 53), none⟩]) .ret))))⟩
theorem k_dangl12 : cFn Try.prog Try.f48 = some c_dangl12 := by kernel_rfl
theorem dangl12_row (l g : Gr) (p m : Pa) (hg : tinyG g) (hm : tinyP m) (hp : tinyP p) : RowI Try.prog 48 [l.v, g.v, p.v, m.v] 3 (danglL g p m) := by
  refine callRow_W (plain_ints _) (by simp) (by omega) (callS_W (by kernel_rfl) Try.func48 k_dangl12 (callable_of Try.func48 (by kernel_rfl)) (by simp [c_dangl12]) ?_)
  simp [c_dangl12]
  refine callS_tree (gone12_row m.nodes p.nodes hm.1 hp.1).ok ?_ ?_ ?_
  · rfl
  · rfl
  simp
  have hgl : tiny (goneL m.nodes p.nodes).length := Nat.le_trans goneL_len hm.1
  refine loopW_count 11 g.edges.length (fun k S => S.fr 5 = .one (.ptr (1, 0) 0) ∧ S.fr 7 = .one (.ptr (3, 0) 0) ∧ S.fr 10 = .one (.t (ints (goneL m.nodes p.nodes))) ∧ S.ob (1, 0) = some (bx 25 (g.v.2.map .t)) ∧ S.ob (3, 0) = some (bx 28 (m.v.2.map .t)) ∧
    outR 451 3 1 (collect (danglF g m (goneL m.nodes p.nodes)) k).length ((collect (danglF g m (goneL m.nodes p.nodes)) k).map (.int .i64)) S.ob (S.fr 9)) hg.2.small ?_ ?_ ?_
  · simp [collect_zero, outR_nil]
  · rintro k S hlt hw hc ⟨f5, f7, f10, o1, o3, ho⟩
    have hlt3 : k * 3 < g.edges.length * 3 := by omega
    have hlen := collect_len (f := danglF g m (goneL m.nodes p.nodes)) (k := k)
    have hg2 := hg.2
    simp only [tiny] at hg2
    simp [f5, f7, f10, o1, o3, hc, hlt]
    refine callS_tree (has12_ok m.edges k hm.2.small) ?_ ?_ ?_
    · rfl
    · rfl
    by_cases e1 : (k : Int) ∈ m.edges
    · have e : danglF g m (goneL m.nodes p.nodes) k = none := by simp [danglF, e1]
      simp [f5, f7, f10, o1, o3, hc, hw, hlt, e1, collect_none e, ho]
    simp [f5, f7, f10, o1, o3, hc, hlt, hlt3, drop_edL hlt, e1]
    refine callS_tree (has12_ok (goneL m.nodes p.nodes) (eth g.edges k).f hgl.small) ?_ ?_ ?_
    · rfl
    · rfl
    by_cases e2 : (eth g.edges k).f ∈ goneL m.nodes p.nodes
    · have e : danglF g m (goneL m.nodes p.nodes) k = some (k : Int) := by simp [danglF, e1, e2]
      simp [f5, f7, f10, o1, o3, hc, hlt, e1, e2]
      refine kApp_grow (ts := [.int .i64 k]) rfl (ho.keep fun g => by simp) (by omega) rfl (by omega) (by omega) fun E hE hob hcnt => ?_
      simp [f5, f7, f10, hc, hw, collect_some e, hob, o1, o3]
      simpa using hE
    simp [f5, f7, f10, o1, o3, hc, hlt, hlt3, drop_edL hlt, e1, e2]
    refine callS_tree (has12_ok (goneL m.nodes p.nodes) (eth g.edges k).g hgl.small) ?_ ?_ ?_
    · rfl
    · rfl
    by_cases e3 : (eth g.edges k).g ∈ goneL m.nodes p.nodes
    · have e : danglF g m (goneL m.nodes p.nodes) k = some (k : Int) := by simp [danglF, e1, e2, e3]
      simp [f5, f7, f10, o1, o3, hc, hlt, e1, e2, e3]
      refine kApp_grow (ts := [.int .i64 k]) rfl (ho.keep fun g => by simp) (by omega) rfl (by omega) (by omega) fun E hE hob hcnt => ?_
      simp [f5, f7, f10, hc, hw, collect_some e, hob, o1, o3]
      simpa using hE
    · have e : danglF g m (goneL m.nodes p.nodes) k = none := by simp [danglF, e1, e2, e3]
      simp [f5, f7, f10, o1, o3, hc, hw, hlt, e1, e2, e3, collect_none e, ho]
  · rintro S hc ⟨f5, f7, f10, o1, o3, ho⟩
    obtain ⟨u, hu⟩ := ho.one
    rw [hu] at ho
    simp [f5, f7, o1, hc, hu]
    simpa [danglL] using ho.rowIs
end Go.Proofs.Ythapbbpdcjmmfaa

/- Contracts: the errors of a case; complements. -/
namespace Go.Proofs.Ythapbbpdcjmmfaa
open Abs
set_option linter.unusedSimpArgs false
set_option linter.unusedVariables false
attribute [local simp] rn0 rn1 rn2 rn3 rn4 rn5 rn6 rn7 evOp nests Arg.ev St.val St.set St.new sliceOf binInt2 binInt AV.cells rdAt St.live retOf resOf resAll treeOf treeCell treeCells treeTups untree frameOf TV.av TR.av ints edgs prs fillV splice intsOf trees V1.tree bx Gr.v Pa.v opRd opWr opNew opNewR opArgs argsRd argRd Arg.rd AV.refs V1.refs refsL dstL

structure MorOk (a b : Gr) (m : Pa) : Prop where
  ga : GrOk a
  gb : GrOk b
  ln : m.nodes.length = a.nodes.length
  le : m.edges.length = a.edges.length
  n : ∀ i, i < a.nodes.length → 0 ≤ nth m.nodes i ∧ nth m.nodes i < b.nodes.length ∧ nth b.nodes (nth m.nodes i).toNat = nth a.nodes i
  e : ∀ i, i < a.edges.length → 0 ≤ nth m.edges i ∧ nth m.edges i < b.edges.length ∧ (eth a.edges i).t = (eth b.edges (nth m.edges i).toNat).t ∧
    nth m.nodes (eth a.edges i).f.toNat = (eth b.edges (nth m.edges i).toNat).f ∧ nth m.nodes (eth a.edges i).g.toNat = (eth b.edges (nth m.edges i).toNat).g

theorem mor_ok {a b : Gr} {m : Pa} (h : morErr a b m = 0) : MorOk a b m := by
  by_cases h1 : gErr a = 0
  case neg => simp [morErr, h1] at h
  by_cases h2 : gErr b = 0
  case neg => simp [morErr, h1, h2] at h
  by_cases h3 : (m.nodes.length : Int) = a.nodes.length ∧ (m.edges.length : Int) = a.edges.length
  case neg => rw [morErr, if_pos h1, if_pos h2, if_neg h3] at h; cases h
  rw [morErr, if_pos h1, if_pos h2, if_pos h3] at h
  by_cases h4 : fe (mnF a b m) m.nodes.length = 0
  case neg => rw [if_neg h4] at h; exact absurd h h4
  rw [if_pos h4] at h
  have ln : m.nodes.length = a.nodes.length := by omega
  have le : m.edges.length = a.edges.length := by omega
  refine ⟨gErr_ok h1, gErr_ok h2, ln, le, fun i hi => ?_, fun i hi => ?_⟩
  · have := fe_eq h4 i (by omega)
    simp only [mnF] at this
    split at this
    · cases this
    split at this
    · cases this
    split at this
    · exact ⟨by omega, by omega, by assumption⟩
    · cases this
  · have := fe_eq h i (by omega)
    simp only [meF] at this
    split at this
    · cases this
    split at this
    · cases this
    split at this
    · split at this
      · split at this
        · exact ⟨by omega, by omega, by assumption, by assumption, by assumption⟩
        · cases this
      · cases this
    · cases this

theorem MorOk.rn {a b : Gr} {m : Pa} (h : MorOk a b m) : ∀ x ∈ m.nodes, 0 ≤ x ∧ x < b.nodes.length := fun x hx => by
  obtain ⟨k, hk, rfl⟩ := mem_nth hx
  have := h.n k (by rw [← h.ln]; exact hk)
  exact ⟨this.1, this.2.1⟩
theorem MorOk.re {a b : Gr} {m : Pa} (h : MorOk a b m) : ∀ x ∈ m.edges, 0 ≤ x ∧ x < b.edges.length := fun x hx => by
  obtain ⟨k, hk, rfl⟩ := mem_nth hx
  have := h.e k (by rw [← h.le]; exact hk)
  exact ⟨this.1, this.2.1⟩

/-- The error of a case. -/
def caseErr (l g : Gr) (p m : Pa) : Int := if morErr l g m = 0 then subErr l p else morErr l g m

structure TinyCase (l g : Gr) (p m : Pa) : Prop where
  tl : tinyG l
  tg : tinyG g
  tp : tinyP p
  tm : tinyP m

def c_given : MFunc := ⟨19, [.tmp 2], .seq (.region [⟨some 1, .box 0 77 (.tmp 0), none⟩, ⟨some 2, .mv (.c (.one (.t (.int .i64 0)))), none⟩]) (.seq (.seq (.region [⟨some 4, .fieldA 0 (.tmp 1), none⟩, ⟨some 5, .load true 2 (.tmp 4), none⟩, ⟨some 6, .fieldA 2 (.tmp 1), none⟩, ⟨some 7, .load true 2 (.tmp 6), none⟩, ⟨some 8, .fieldA 6 (.tmp 1), none⟩, ⟨some 9, .load true 2 (.tmp 8), none⟩, ⟨some 10, .call (.c (.one (.fn 69 []))) 70 [.tmp 5, .tmp 7, .tmp 9], none⟩, ⟨some 3, .mv (.tmp 10), none⟩]) (.seq (.region [⟨some 11, .mv (.tmp 3), none⟩, ⟨some 12, .bin .neq (.tmp 11) (.c (.one (.t (.int .i64 0)))), none⟩]) (.cond (.tmp 12) (.seq (.region [⟨some 13, .mv (.tmp 3), none⟩, ⟨some 2, .mv (.tmp 13), none⟩]) .ret) .skip))) (.seq (.region [⟨some 14, .fieldA 0 (.tmp 1), none⟩, ⟨some 15, .load true 2 (.tmp 14), none⟩, ⟨some 16, .fieldA 4 (.tmp 1), none⟩, ⟨some 17, .load true 2 (.tmp 16), none⟩, ⟨some 18, .call (.c (.one (.fn 63 []))) 260 [.tmp 15, .tmp 17], none⟩, ⟨some 2, .mv (.tmp 18), none⟩]) .ret))⟩
theorem k_given : cFn Try.prog Try.f41 = some c_given := by kernel_rfl
theorem given_ok (l g : Gr) (p m : Pa) (h : TinyCase l g p m) : CallOK Try.prog 41 [gluV l g p m] (.sv (false, [.int .i64 (caseErr l g p m)])) := by
  refine callOK_W (callS_W (by kernel_rfl) Try.func41 k_given (callable_of Try.func41 (by kernel_rfl)) (by simp [c_given]) ?_)
  simp [c_given, gluV]
  refine callS_tree (mvalid_ok l g m h.tl h.tg h.tm) ?_ ?_ ?_
  · rfl
  · rfl
  by_cases h1 : morErr l g m = 0
  case neg => simp [h1, caseErr]
  simp [h1, caseErr]
  refine callS_tree (svalid_ok l p h.tl h.tp) ?_ ?_ ?_
  · rfl
  · rfl
  simp

def c_given12 : MFunc := ⟨20, [.tmp 8], .seq (.region [⟨some 4, .box 0 25 (.tmp 0), none⟩, ⟨some 5, .box 1 25 (.tmp 1), none⟩, ⟨some 6, .box 2 27 (.tmp 2), none⟩, ⟨some 7, .box 3 28 (.tmp 3), none⟩, ⟨some 8, .mv (.c (.one (.t (.int .i64 0)))), none⟩]) (.seq (.seq (.region [⟨some 10, .load true 2 (.tmp 4), none⟩, ⟨some 11, .load true 2 (.tmp 5), none⟩, ⟨some 12, .load true 2 (.tmp 7), none⟩, ⟨some 13, .call (.c (.one (.fn 72 []))) 67 [.tmp 10, .tmp 11, .tmp 12], none⟩, ⟨some 9, .mv (.tmp 13), none⟩]) (.seq (.region [⟨some 14, .mv (.tmp 9), none⟩, ⟨some 15, .bin .neq (.tmp 14) (.c (.one (.t (.int .i64 0)))), none⟩]) (.cond (.tmp 15) (.seq (.region [⟨some 16, .mv (.tmp 9), none⟩, ⟨some 8, .mv (.tmp 16), none⟩]) .ret) .skip))) (.seq (.region [⟨some 17, .load true 2 (.tmp 4), none⟩, ⟨some 18, .load true 2 (.tmp 6), none⟩, ⟨some 19, .call (.c (.one (.fn 73 []))) 258 [.tmp 17, .tmp 18], none⟩, ⟨some 8, .mv (.tmp 19), none⟩]) .ret))⟩
theorem k_given12 : cFn Try.prog Try.f46 = some c_given12 := by kernel_rfl
theorem given12_ok (l g : Gr) (p m : Pa) (h : TinyCase l g p m) : CallOK Try.prog 46 [l.v, g.v, p.v, m.v] (.sv (false, [.int .i64 (caseErr l g p m)])) := by
  refine callOK_W (callS_W (by kernel_rfl) Try.func46 k_given12 (callable_of Try.func46 (by kernel_rfl)) (by simp [c_given12]) ?_)
  simp [c_given12]
  refine callS_tree (rvalid6_ok l g m h.tl h.tg h.tm) ?_ ?_ ?_
  · rfl
  · rfl
  by_cases h1 : morErr l g m = 0
  case neg => simp [h1, caseErr]
  simp [h1, caseErr]
  refine callS_tree (rvalid7_ok l p h.tl h.tp) ?_ ?_ ?_
  · rfl
  · rfl
  simp

def c_identified : MFunc := ⟨18, [.tmp 2, .tmp 3], .seq (.region [⟨some 1, .box 0 77 (.tmp 0), none⟩, ⟨some 2, .mv (.c (.one .nil)), none⟩, ⟨some 3, .mv (.c (.one .nil)), none⟩]) (.seq (.draw [[], [0], [1], [], [3], [4], [2, 5], [], [7], [8], [], [10], [11], [9, 12, 6], [6, 13, 0, 1, 2, 3, 4, 5, 6], [13, 14, 0, 1, 2, 3, 4, 5, 6, 7, 8, 9, 10, 11, 12, 13, 14]] [⟨some 4, .fieldA 6 (.tmp 1), none⟩, ⟨some 5, .fieldA 0 (.tmp 4), none⟩, ⟨some 6, .load false 1 (.tmp 5), none⟩, ⟨some 7, .fieldA 4 (.tmp 1), none⟩, ⟨some 8, .fieldA 0 (.tmp 7), none⟩, ⟨some 9, .load false 1 (.tmp 8), none⟩, ⟨some 10, .call (.c (.one (.fn 70 []))) 70 [.tmp 6, .tmp 9], none⟩, ⟨some 11, .fieldA 6 (.tmp 1), none⟩, ⟨some 12, .fieldA 1 (.tmp 11), none⟩, ⟨some 13, .load false 1 (.tmp 12), none⟩, ⟨some 14, .fieldA 4 (.tmp 1), none⟩, ⟨some 15, .fieldA 1 (.tmp 14), none⟩, ⟨some 16, .load false 1 (.tmp 15), none⟩, ⟨some 17, .call (.c (.one (.fn 70 []))) 77 [.tmp 13, .tmp 16], none⟩, ⟨some 2, .mv (.tmp 10), none⟩, ⟨some 3, .mv (.tmp 17), none⟩]) .ret)⟩
theorem k_identified : cFn Try.prog Try.f42 = some c_identified := by kernel_rfl
theorem identified_ok (l g : Gr) (p m : Pa) (h1 : m.nodes.length ≤ 1000) (h2 : m.edges.length ≤ 1000) (hp : tinyP p) : CallOK Try.prog 42 [gluV l g p m]
    (.tup [(false, [prs (pairsL m.nodes p.nodes)]), (false, [prs (pairsL m.edges p.edges)])]) := by
  refine callOK_W (callS_W (by kernel_rfl) Try.func42 k_identified (callable_of Try.func42 (by kernel_rfl)) (by simp [c_identified]) ?_)
  simp [c_identified, dw0, dw1, dw2, dw3, gluV]
  refine dCall_ok (callOK_of_row (pairs_row m.nodes p.nodes h1 hp.1)) ?_ ?_ ?_
  · rfl
  · rfl
  simp [dw0, dw1, dw2, dw3, gluV]
  refine dCall_ok (callOK_of_row (pairs_row m.edges p.edges h2 hp.2)) ?_ ?_ ?_
  · rfl
  · rfl
  simp [dw0, dw1, dw2, dw3, gluV]
  rfl

/-- The complement, or an error. -/
def ofR (l g : Gr) (p m : Pa) : Pa × Int :=
  if caseErr l g p m = 0 then
    if (0 : Int) < (pairsL m.nodes p.nodes).length + (pairsL m.edges p.edges).length then (⟨[], []⟩, 15)
    else if danglL g p m = [] then (⟨restL g.nodes.length (goneL m.nodes p.nodes), restL g.edges.length (goneL m.edges p.edges)⟩, 0)
    else (⟨[], []⟩, 14)
  else (⟨[], []⟩, caseErr l g p m)

theorem pairsL_len {l k : List Int} (h : l.length ≤ 1000) : (pairsL l k).length ≤ 1000000 := by
  have := gather_len (f := fun a => collect (pairF l k a) l.length) (m := l.length) (fun j => collect_len) l.length
  have g2 : l.length * l.length ≤ 1000 * 1000 := Nat.mul_le_mul h h
  simp only [pairsL]
  omega

theorem caseErr_ok {l g : Gr} {p m : Pa} (h : caseErr l g p m = 0) : MorOk l g m ∧ subErr l p = 0 := by
  unfold caseErr at h
  split at h
  · exact ⟨mor_ok (by assumption), h⟩
  · exact absurd h (by assumption)

def c_of : MFunc := ⟨61, [.cell 8 true 2, .tmp 9], .seq (.region [⟨some 4, .box 0 25 (.tmp 0), none⟩, ⟨some 5, .box 1 25 (.tmp 1), none⟩, ⟨some 6, .box 2 27 (.tmp 2), none⟩, ⟨some 7, .box 3 28 (.tmp 3), none⟩, ⟨some 8, .alloc 4 27 [.nil, .nil], none⟩, ⟨some 9, .mv (.c (.one (.t (.int .i64 0)))), none⟩]) (.seq (.region [⟨some 14, .load true 2 (.tmp 4), none⟩, ⟨some 15, .load true 2 (.tmp 5), none⟩, ⟨some 16, .load true 2 (.tmp 6), none⟩, ⟨some 17, .load true 2 (.tmp 7), none⟩, ⟨some 18, .build [.nil, .nil, .nil, .nil, .nil, .nil, .nil, .nil] [(0, (2, .tmp 14)), (2, (2, .tmp 15)), (4, (2, .tmp 16)), (6, (2, .tmp 17))], none⟩, ⟨some 10, .alloc 69 77 [.nil, .nil, .nil, .nil, .nil, .nil, .nil, .nil], none⟩, ⟨none, .store 8 (.tmp 10) (.tmp 18), none⟩]) (.seq (.seq (.region [⟨some 19, .load true 8 (.tmp 10), none⟩, ⟨some 20, .call (.c (.one (.fn 41 []))) 129 [.tmp 19], none⟩, ⟨some 11, .mv (.tmp 20), none⟩]) (.seq (.region [⟨some 21, .mv (.tmp 11), none⟩, ⟨some 22, .bin .neq (.tmp 21) (.c (.one (.t (.int .i64 0)))), none⟩]) (.cond (.tmp 22) (.seq (.region [⟨some 23, .build [.nil, .nil] [], none⟩, ⟨some 24, .mv (.tmp 11), none⟩, ⟨none, .store 2 (.tmp 8) (.tmp 23), none⟩, ⟨some 9, .mv (.tmp 24), none⟩]) .ret) .skip))) (.seq (.region [⟨some 26, .load true 8 (.tmp 10), none⟩, ⟨some 27, .call (.c (.one (.fn 42 []))) 321 [.tmp 26], none⟩, ⟨some 25, .mv (.tmp 27), none⟩, ⟨some 28, .extract (.tmp 25) 0, none⟩, ⟨some 29, .extract (.tmp 25) 1, none⟩, ⟨some 12, .mv (.tmp 28), none⟩, ⟨some 13, .mv (.tmp 29), none⟩]) (.seq (.block 0 (.seq (.region [⟨some 31, .mv (.tmp 12), none⟩, ⟨some 32, .len (.tmp 31), none⟩, ⟨some 33, .mv (.tmp 13), none⟩, ⟨some 34, .len (.tmp 33), none⟩, ⟨some 35, .bin .add (.tmp 32) (.tmp 34), none⟩, ⟨some 36, .bin .gtr (.tmp 35) (.c (.one (.t (.int .i64 0)))), none⟩, ⟨some 30, .mv (.tmp 36), none⟩]) (.cond (.tmp 30) (.seq (.region [⟨some 37, .build [.nil, .nil] [], none⟩, ⟨none, .store 2 (.tmp 8) (.tmp 37), none⟩, ⟨some 9, .mv (.c (.one (.t (.int .i64 15)))), none⟩]) .ret) (.seq (.region [⟨some 39, .load true 8 (.tmp 10), none⟩, ⟨some 40, .call (.c (.one (.fn 43 []))) 513 [.tmp 39], none⟩, ⟨some 41, .len (.tmp 40), none⟩, ⟨some 42, .bin .gtr (.tmp 41) (.c (.one (.t (.int .i64 0)))), none⟩, ⟨some 38, .mv (.tmp 42), none⟩]) (.cond (.tmp 38) (.seq (.region [⟨some 43, .build [.nil, .nil] [], none⟩, ⟨none, .store 2 (.tmp 8) (.tmp 43), none⟩, ⟨some 9, .mv (.c (.one (.t (.int .i64 14)))), none⟩]) .ret) .skip))))) (.seq (.draw [[], [0], [1], [], [3], [], [5], [2, 4, 6], [], [8], [9], [], [11], [], [13], [10, 12, 14, 7], [7, 15], [16, 15, 0, 1, 2, 3, 4, 5, 6, 7, 8, 9, 10, 11, 12, 13, 14, 15, 16], [17, 0, 1, 2, 3, 4, 5, 6, 7, 8, 9, 10, 11, 12, 13, 14, 15, 16, 17]] [⟨some 44, .fieldA 0 (.tmp 5), none⟩, ⟨some 45, .load false 1 (.tmp 44), none⟩, ⟨some 46, .len (.tmp 45), none⟩, ⟨some 47, .fieldA 0 (.tmp 7), none⟩, ⟨some 48, .load false 1 (.tmp 47), none⟩, ⟨some 49, .fieldA 0 (.tmp 6), none⟩, ⟨some 50, .load false 1 (.tmp 49), none⟩, ⟨some 51, .call (.c (.one (.fn 44 []))) 647 [.tmp 46, .tmp 48, .tmp 50], none⟩, ⟨some 52, .fieldA 1 (.tmp 5), none⟩, ⟨some 53, .load false 1 (.tmp 52), none⟩, ⟨some 54, .len (.tmp 53), none⟩, ⟨some 55, .fieldA 1 (.tmp 7), none⟩, ⟨some 56, .load false 1 (.tmp 55), none⟩, ⟨some 57, .fieldA 1 (.tmp 6), none⟩, ⟨some 58, .load false 1 (.tmp 57), none⟩, ⟨some 59, .call (.c (.one (.fn 44 []))) 655 [.tmp 54, .tmp 56, .tmp 58], none⟩, ⟨some 60, .build [.nil, .nil] [(0, (1, .tmp 51)), (1, (1, .tmp 59))], none⟩, ⟨none, .store 2 (.tmp 8) (.tmp 60), none⟩, ⟨some 9, .mv (.c (.one (.t (.int .i64 0)))), none⟩]) .ret)))))⟩
theorem k_of : cFn Try.prog Try.f12 = some c_of := by kernel_rfl
theorem of_ok (l g : Gr) (p m : Pa) (h : TinyCase l g p m) : CallOK Try.prog 12 [l.v, g.v, p.v, m.v] (.tup [(ofR l g p m).1.v, (false, [.int .i64 (ofR l g p m).2])]) := by
  refine callOK_W (callS_W (by kernel_rfl) Try.func12 k_of (callable_of Try.func12 (by kernel_rfl)) (by simp [c_of]) ?_)
  simp [c_of]
  refine callS_tree (given_ok l g p m h) ?_ ?_ ?_
  · rfl
  · rfl
  by_cases h1 : caseErr l g p m = 0
  case neg =>
    have e : ofR l g p m = (⟨[], []⟩, caseErr l g p m) := by simp [ofR, h1]
    simp [h1, e]
  obtain ⟨mo, so⟩ := caseErr_ok h1
  have hn := mo.ln; have he := mo.le; have ha1 := mo.ga.n; have ha2 := mo.ga.e
  have l1 : m.nodes.length ≤ 1000 := by omega
  have l2 : m.edges.length ≤ 1000 := by omega
  simp [h1]
  refine callS_tree (identified_ok l g p m l1 l2 h.tp) ?_ ?_ ?_
  · rfl
  · rfl
  have q1 := pairsL_len (k := p.nodes) l1
  have q2 := pairsL_len (k := p.edges) l2
  have hw : IntKind.i64.wrap (((pairsL m.nodes p.nodes).length : Int) + (pairsL m.edges p.edges).length) = ((pairsL m.nodes p.nodes).length : Int) + (pairsL m.edges p.edges).length := by rw [wrap64_id] <;> omega
  by_cases h2 : (0 : Int) < (pairsL m.nodes p.nodes).length + (pairsL m.edges p.edges).length
  · have e : ofR l g p m = (⟨[], []⟩, 15) := by simp [ofR, h1, h2]
    simp [h1, hw, h2, e]
  simp [h1, hw, h2]
  refine callS_tree (dangling_row l g p m h.tg h.tm h.tp).ok ?_ ?_ ?_
  · rfl
  · rfl
  by_cases h3 : danglL g p m = []
  case neg =>
    have e : ofR l g p m = (⟨[], []⟩, 14) := by rw [ofR, if_pos h1, if_neg h2, if_neg h3]
    simp [h1, h3, e]
  have e : ofR l g p m = (⟨restL g.nodes.length (goneL m.nodes p.nodes), restL g.edges.length (goneL m.edges p.edges)⟩, 0) := by rw [ofR, if_pos h1, if_neg h2, if_pos h3]
  simp [dw0, dw1, dw2, dw3, h1, h3, e]
  refine dCall_ok (rest_row g.nodes.length m.nodes p.nodes h.tg.1 h.tm.1 h.tp.1 mo.rn).ok ?_ ?_ ?_
  · rfl
  · rfl
  simp [dw0, dw1, dw2, dw3]
  refine dCall_ok (rest_row g.edges.length m.edges p.edges h.tg.2 h.tm.2 h.tp.2 mo.re).ok ?_ ?_ ?_
  · rfl
  · rfl
  simp [dw0, dw1, dw2, dw3]
  rfl

def c_of12 : MFunc := ⟨62, [.cell 8 true 2, .tmp 9], .seq (.region [⟨some 4, .box 0 25 (.tmp 0), none⟩, ⟨some 5, .box 1 25 (.tmp 1), none⟩, ⟨some 6, .box 2 27 (.tmp 2), none⟩, ⟨some 7, .box 3 28 (.tmp 3), none⟩, ⟨some 8, .alloc 4 27 [.nil, .nil], none⟩, ⟨some 9, .mv (.c (.one (.t (.int .i64 0)))), none⟩]) (.seq (.seq (.region [⟨some 11, .load true 2 (.tmp 4), none⟩, ⟨some 12, .load true 2 (.tmp 5), none⟩, ⟨some 13, .load true 2 (.tmp 6), none⟩, ⟨some 14, .load true 2 (.tmp 7), none⟩, ⟨some 15, .call (.c (.one (.fn 46 []))) 68 [.tmp 11, .tmp 12, .tmp 13, .tmp 14], none⟩, ⟨some 10, .mv (.tmp 15), none⟩]) (.seq (.region [⟨some 16, .mv (.tmp 10), none⟩, ⟨some 17, .bin .neq (.tmp 16) (.c (.one (.t (.int .i64 0)))), none⟩]) (.cond (.tmp 17) (.seq (.region [⟨some 18, .build [.nil, .nil] [], none⟩, ⟨some 19, .mv (.tmp 10), none⟩, ⟨none, .store 2 (.tmp 8) (.tmp 18), none⟩, ⟨some 9, .mv (.tmp 19), none⟩]) .ret) .skip))) (.seq (.seq (.draw [[], [0], [], [2], [1, 3], [4], [], [6], [], [8], [7, 9, 4], [10], [5, 11], [12]] [⟨some 20, .fieldA 0 (.tmp 7), none⟩, ⟨some 21, .load false 1 (.tmp 20), none⟩, ⟨some 22, .fieldA 0 (.tmp 6), none⟩, ⟨some 23, .load false 1 (.tmp 22), none⟩, ⟨some 24, .call (.c (.one (.fn 47 []))) 260 [.tmp 21, .tmp 23], none⟩, ⟨some 25, .len (.tmp 24), none⟩, ⟨some 26, .fieldA 1 (.tmp 7), none⟩, ⟨some 27, .load false 1 (.tmp 26), none⟩, ⟨some 28, .fieldA 1 (.tmp 6), none⟩, ⟨some 29, .load false 1 (.tmp 28), none⟩, ⟨some 30, .call (.c (.one (.fn 47 []))) 266 [.tmp 27, .tmp 29], none⟩, ⟨some 31, .len (.tmp 30), none⟩, ⟨some 32, .bin .add (.tmp 25) (.tmp 31), none⟩, ⟨some 33, .bin .gtr (.tmp 32) (.c (.one (.t (.int .i64 0)))), none⟩]) (.cond (.tmp 33) (.seq (.region [⟨some 34, .build [.nil, .nil] [], none⟩, ⟨none, .store 2 (.tmp 8) (.tmp 34), none⟩, ⟨some 9, .mv (.c (.one (.t (.int .i64 15)))), none⟩]) .ret) .skip)) (.seq (.seq (.region [⟨some 35, .load true 2 (.tmp 4), none⟩, ⟨some 36, .load true 2 (.tmp 5), none⟩, ⟨some 37, .load true 2 (.tmp 6), none⟩, ⟨some 38, .load true 2 (.tmp 7), none⟩, ⟨some 39, .call (.c (.one (.fn 48 []))) 388 [.tmp 35, .tmp 36, .tmp 37, .tmp 38], none⟩, ⟨some 40, .len (.tmp 39), none⟩, ⟨some 41, .bin .gtr (.tmp 40) (.c (.one (.t (.int .i64 0)))), none⟩]) (.cond (.tmp 41) (.seq (.region [⟨some 42, .build [.nil, .nil] [], none⟩, ⟨none, .store 2 (.tmp 8) (.tmp 42), none⟩, ⟨some 9, .mv (.c (.one (.t (.int .i64 14)))), none⟩]) .ret) .skip)) (.seq (.draw [[], [0], [1], [], [3], [], [5], [4, 6], [2, 7, 7], [], [9], [10], [], [12], [], [14], [13, 15, 8], [11, 16, 16], [8, 17], [18, 17, 0, 1, 2, 3, 4, 5, 6, 7, 8, 9, 10, 11, 12, 13, 14, 15, 16, 17, 18], [19, 0, 1, 2, 3, 4, 5, 6, 7, 8, 9, 10, 11, 12, 13, 14, 15, 16, 17, 18, 19]] [⟨some 43, .fieldA 0 (.tmp 5), none⟩, ⟨some 44, .load false 1 (.tmp 43), none⟩, ⟨some 45, .len (.tmp 44), none⟩, ⟨some 46, .fieldA 0 (.tmp 7), none⟩, ⟨some 47, .load false 1 (.tmp 46), none⟩, ⟨some 48, .fieldA 0 (.tmp 6), none⟩, ⟨some 49, .load false 1 (.tmp 48), none⟩, ⟨some 50, .call (.c (.one (.fn 50 []))) 519 [.tmp 47, .tmp 49], none⟩, ⟨some 51, .call (.c (.one (.fn 49 []))) 520 [.tmp 45, .tmp 50], none⟩, ⟨some 52, .fieldA 1 (.tmp 5), none⟩, ⟨some 53, .load false 1 (.tmp 52), none⟩, ⟨some 54, .len (.tmp 53), none⟩, ⟨some 55, .fieldA 1 (.tmp 7), none⟩, ⟨some 56, .load false 1 (.tmp 55), none⟩, ⟨some 57, .fieldA 1 (.tmp 6), none⟩, ⟨some 58, .load false 1 (.tmp 57), none⟩, ⟨some 59, .call (.c (.one (.fn 50 []))) 528 [.tmp 56, .tmp 58], none⟩, ⟨some 60, .call (.c (.one (.fn 49 []))) 529 [.tmp 54, .tmp 59], none⟩, ⟨some 61, .build [.nil, .nil] [(0, (1, .tmp 51)), (1, (1, .tmp 60))], none⟩, ⟨none, .store 2 (.tmp 8) (.tmp 61), none⟩, ⟨some 9, .mv (.c (.one (.t (.int .i64 0)))), none⟩]) .ret))))⟩
theorem k_of12 : cFn Try.prog Try.f14 = some c_of12 := by kernel_rfl
theorem of12_ok (l g : Gr) (p m : Pa) (h : TinyCase l g p m) : CallOK Try.prog 14 [l.v, g.v, p.v, m.v] (.tup [(ofR l g p m).1.v, (false, [.int .i64 (ofR l g p m).2])]) := by
  refine callOK_W (callS_W (by kernel_rfl) Try.func14 k_of12 (callable_of Try.func14 (by kernel_rfl)) (by simp [c_of12]) ?_)
  simp [c_of12]
  refine callS_tree (given12_ok l g p m h) ?_ ?_ ?_
  · rfl
  · rfl
  by_cases h1 : caseErr l g p m = 0
  case neg =>
    have e : ofR l g p m = (⟨[], []⟩, caseErr l g p m) := by simp [ofR, h1]
    simp [h1, e]
  obtain ⟨mo, so⟩ := caseErr_ok h1
  have hn := mo.ln; have he := mo.le; have ha1 := mo.ga.n; have ha2 := mo.ga.e
  have l1 : m.nodes.length ≤ 1000 := by omega
  have l2 : m.edges.length ≤ 1000 := by omega
  simp [dw0, dw1, dw2, dw3, h1]
  refine dCall_ok (callOK_of_row (ident12_row m.nodes p.nodes l1 h.tp.1)) ?_ ?_ ?_
  · rfl
  · rfl
  simp [dw0, dw1, dw2, dw3]
  refine dCall_ok (callOK_of_row (ident12_row m.edges p.edges l2 h.tp.2)) ?_ ?_ ?_
  · rfl
  · rfl
  have q1 := pairsL_len (k := p.nodes) l1
  have q2 := pairsL_len (k := p.edges) l2
  have hw : IntKind.i64.wrap (((pairsL m.nodes p.nodes).length : Int) + (pairsL m.edges p.edges).length) = ((pairsL m.nodes p.nodes).length : Int) + (pairsL m.edges p.edges).length := by rw [wrap64_id] <;> omega
  by_cases h2 : (0 : Int) < (pairsL m.nodes p.nodes).length + (pairsL m.edges p.edges).length
  · have e : ofR l g p m = (⟨[], []⟩, 15) := by simp [ofR, h1, h2]
    simp [dw0, dw1, dw2, dw3, h1, hw, h2, e]
    rfl
  simp [dw0, dw1, dw2, dw3, h1, hw, h2]
  refine ⟨rfl, ?_⟩
  refine callS_tree (dangl12_row l g p m h.tg h.tm h.tp).ok ?_ ?_ ?_
  · rfl
  · rfl
  by_cases h3 : danglL g p m = []
  case neg =>
    have e : ofR l g p m = (⟨[], []⟩, 14) := by rw [ofR, if_pos h1, if_neg h2, if_neg h3]
    simp [h1, h3, e]
  have e : ofR l g p m = (⟨restL g.nodes.length (goneL m.nodes p.nodes), restL g.edges.length (goneL m.edges p.edges)⟩, 0) := by rw [ofR, if_pos h1, if_neg h2, if_pos h3]
  have g1 : tiny (goneL m.nodes p.nodes).length := Nat.le_trans goneL_len h.tm.1
  have g2 : tiny (goneL m.edges p.edges).length := Nat.le_trans goneL_len h.tm.2
  simp [dw0, dw1, dw2, dw3, h1, h3, e]
  refine dCall_ok (gone12_row m.nodes p.nodes h.tm.1 h.tp.1).ok ?_ ?_ ?_
  · rfl
  · rfl
  simp [dw0, dw1, dw2, dw3]
  refine dCall_ok (rest12_row g.nodes.length (goneL m.nodes p.nodes) h.tg.1 g1).ok ?_ ?_ ?_
  · rfl
  · rfl
  simp [dw0, dw1, dw2, dw3]
  refine dCall_ok (gone12_row m.edges p.edges h.tm.2 h.tp.2).ok ?_ ?_ ?_
  · rfl
  · rfl
  simp [dw0, dw1, dw2, dw3]
  refine dCall_ok (rest12_row g.edges.length (goneL m.edges p.edges) h.tg.2 g2).ok ?_ ?_ ?_
  · rfl
  · rfl
  simp [dw0, dw1, dw2, dw3]
  rfl
end Go.Proofs.Ythapbbpdcjmmfaa

/- Contracts: copies, comparisons, sizes. -/
namespace Go.Proofs.Ythapbbpdcjmmfaa
open Abs
set_option linter.unusedSimpArgs false
set_option linter.unusedVariables false
attribute [local simp] rn0 rn1 rn2 rn3 rn4 rn5 rn6 rn7 evOp nests Arg.ev St.val St.set St.new sliceOf binInt2 binInt AV.cells rdAt St.live retOf resOf resAll treeOf treeCell treeCells treeTups untree frameOf TV.av TR.av ints edgs prs fillV splice intsOf trees V1.tree bx Gr.v Pa.v opRd opWr opNew opNewR opArgs argsRd argRd Arg.rd AV.refs V1.refs refsL dstL

theorem ofInts_inj {a b : List Int} (h : a.map (C.int .i64) = b.map (C.int .i64)) : a = b := by
  induction a generalizing b with
  | nil => cases b with
    | nil => rfl
    | cons y r => simp at h
  | cons x r ih => cases b with
    | nil => simp at h
    | cons y r' =>
      simp at h
      rw [h.1, ih (by simpa using h.2)]

theorem list_ext_nth {a b : List Int} (hl : a.length = b.length) (h : ∀ k, k < a.length → nth a k = nth b k) : a = b := by
  apply List.ext_getElem hl
  intro i h1 h2
  have := h i h1
  rwa [nth_eq h1, nth_eq h2] at this

def c_sameInts : MFunc := ⟨26, [.tmp 4], .seq (.region [⟨some 4, .mv (.c (.one (.t (.bool false)))), none⟩]) (.seq (.seq (.region [⟨some 6, .mv (.tmp 0), none⟩, ⟨some 7, .len (.tmp 6), none⟩, ⟨some 8, .mv (.tmp 1), none⟩, ⟨some 9, .len (.tmp 8), none⟩, ⟨some 10, .bin .neq (.tmp 7) (.tmp 9), none⟩]) (.cond (.tmp 10) (.seq (.region [⟨some 4, .mv (.c (.one (.t (.bool false)))), none⟩]) .ret) .skip)) (.seq (.seq (.region [⟨some 5, .mv (.c (.one (.t (.int .i64 0)))), none⟩]) (.block 0 (.loop (.seq (.seq (.region [⟨some 11, .mv (.tmp 5), none⟩, ⟨some 12, .mv (.tmp 0), none⟩, ⟨some 13, .len (.tmp 12), none⟩, ⟨some 14, .bin .lss (.tmp 11) (.tmp 13), none⟩]) (.cond (.tmp 14) .skip (.exit 0))) (.seq (.block 1 (.seq (.draw [[], [], [0, 1], [2], [], [], [4, 5], [6], [3, 7]] [⟨some 17, .mv (.tmp 0), none⟩, ⟨some 18, .mv (.tmp 5), none⟩, ⟨some 19, .idxA 1 (.tmp 17) (.tmp 18), none⟩, ⟨some 20, .load false 1 (.tmp 19), none⟩, ⟨some 21, .mv (.tmp 1), none⟩, ⟨some 22, .mv (.tmp 5), none⟩, ⟨some 23, .idxA 1 (.tmp 21) (.tmp 22), none⟩, ⟨some 24, .load false 1 (.tmp 23), none⟩, ⟨some 25, .bin .neq (.tmp 20) (.tmp 24), none⟩]) (.cond (.tmp 25) (.seq (.region [⟨some 4, .mv (.c (.one (.t (.bool false)))), none⟩]) .ret) .skip))) (.region [⟨some 15, .mv (.tmp 5), none⟩, ⟨some 16, .bin .add (.tmp 15) (.c (.one (.t (.int .i64 1)))), none⟩, ⟨some 5, .mv (.tmp 16), none⟩])))))) (.seq (.region [⟨some 4, .mv (.c (.one (.t (.bool true)))), none⟩]) .ret)))⟩
theorem k_sameInts : cFn Try.prog Try.f51 = some c_sameInts := by kernel_rfl
theorem sameInts_ok (a b : List Int) (ha : tiny a.length) (hb : tiny b.length) : CallOK Try.prog 51 [(false, [ints a]), (false, [ints b])] (.sv (false, [.bool (decide (a = b))])) := by
  refine callOK_W (callS_W (by kernel_rfl) Try.func51 k_sameInts (callable_of Try.func51 (by kernel_rfl)) (by simp [c_sameInts]) ?_)
  by_cases hl : (a.length : Int) = b.length
  case neg =>
    have : ¬ a = b := fun e => hl (by rw [e])
    simp [c_sameInts, hl, this]
  simp [c_sameInts, hl]
  have hl' : a.length = b.length := by omega
  refine loopW_count 5 a.length (fun k S => S.fr 0 = .one (.t (ints a)) ∧ S.fr 1 = .one (.t (ints b)) ∧ ∀ j, j < k → nth a j = nth b j) ha.small ?_ ?_ ?_
  · simp [hl]
  · rintro k S hlt hw hc ⟨f0, f1, hp⟩
    have hlt2 : k < b.length := by omega
    by_cases e : nth a k = nth b k
    · simp [dw0, dw1, dw2, dw3, f0, f1, hc, hlt, hlt2, drop_nth hlt, drop_nth hlt2, e, hw]
      exact ⟨rfl, lt_succ_all hp e⟩
    · have : ¬ a = b := fun h => e (by rw [h])
      simp [dw0, dw1, dw2, dw3, f0, f1, hc, hlt, hlt2, drop_nth hlt, drop_nth hlt2, e, this]
      rfl
  · rintro S hc ⟨f0, f1, hp⟩
    have : a = b := list_ext_nth hl' hp
    simp [f0, f1, hc, this]

def c_equal : MFunc := ⟨26, [.tmp 4], .seq (.region [⟨some 4, .mv (.c (.one (.t (.bool false)))), none⟩]) (.seq (.seq (.region [⟨some 6, .mv (.tmp 0), none⟩, ⟨some 7, .len (.tmp 6), none⟩, ⟨some 8, .mv (.tmp 1), none⟩, ⟨some 9, .len (.tmp 8), none⟩, ⟨some 10, .bin .neq (.tmp 7) (.tmp 9), none⟩]) (.cond (.tmp 10) (.seq (.region [⟨some 4, .mv (.c (.one (.t (.bool false)))), none⟩]) .ret) .skip)) (.seq (.seq (.region [⟨some 11, .mv (.tmp 0), none⟩, ⟨some 12, .len (.tmp 11), none⟩, ⟨some 13, .mv (.c (.one (.t (.int .i64 0)))), none⟩]) (.block 0 (.loop (.seq (.region [⟨some 14, .bin .lss (.tmp 13) (.tmp 12), none⟩]) (.seq (.cond (.tmp 14) .skip (.exit 0)) (.seq (.block 1 (.seq (.region [⟨some 15, .mv (.tmp 13), none⟩, ⟨some 5, .mv (.tmp 15), none⟩]) (.seq (.draw [[], [], [0, 1], [2], [], [], [4, 5], [6], [3, 7]] [⟨some 16, .mv (.tmp 0), none⟩, ⟨some 17, .mv (.tmp 5), none⟩, ⟨some 18, .idxA 1 (.tmp 16) (.tmp 17), none⟩, ⟨some 19, .load false 1 (.tmp 18), none⟩, ⟨some 20, .mv (.tmp 1), none⟩, ⟨some 21, .mv (.tmp 5), none⟩, ⟨some 22, .idxA 1 (.tmp 20) (.tmp 21), none⟩, ⟨some 23, .load false 1 (.tmp 22), none⟩, ⟨some 24, .bin .neq (.tmp 19) (.tmp 23), none⟩]) (.cond (.tmp 24) (.seq (.region [⟨some 4, .mv (.c (.one (.t (.bool false)))), none⟩]) .ret) .skip)))) (.region [⟨some 25, .bin .add (.tmp 13) (.c (.one (.t (.int .i64 1)))), none⟩, ⟨some 13, .mv (.tmp 25), none⟩]))))))) (.seq (.region [⟨some 4, .mv (.c (.one (.t (.bool true)))), none⟩]) .ret)))⟩
theorem k_equal : cFn Try.prog Try.f27 = some c_equal := by kernel_rfl
theorem equal_ok (a b : List Int) (ha : tiny a.length) (hb : tiny b.length) : CallOK Try.prog 27 [(false, [ints a]), (false, [ints b])] (.sv (false, [.bool (decide (a = b))])) := by
  refine callOK_W (callS_W (by kernel_rfl) Try.func27 k_equal (callable_of Try.func27 (by kernel_rfl)) (by simp [c_equal]) ?_)
  by_cases hl : (a.length : Int) = b.length
  case neg =>
    have : ¬ a = b := fun e => hl (by rw [e])
    simp [c_equal, hl, this]
  simp [c_equal, hl]
  have hl' : a.length = b.length := by omega
  refine loopW_count 13 a.length (fun k S => S.fr 0 = .one (.t (ints a)) ∧ S.fr 1 = .one (.t (ints b)) ∧ S.fr 12 = .one (.t (.int .i64 a.length)) ∧ ∀ j, j < k → nth a j = nth b j) ha.small ?_ ?_ ?_
  · simp [hl]
  · rintro k S hlt hw hc ⟨f0, f1, f12, hp⟩
    have hlt2 : k < b.length := by omega
    by_cases e : nth a k = nth b k
    · simp [dw0, dw1, dw2, dw3, f0, f1, f12, hc, hlt, hlt2, drop_nth hlt, drop_nth hlt2, e, hw]
      exact ⟨rfl, lt_succ_all hp e⟩
    · have : ¬ a = b := fun h => e (by rw [h])
      simp [dw0, dw1, dw2, dw3, f0, f1, f12, hc, hlt, hlt2, drop_nth hlt, drop_nth hlt2, e, this]
      rfl
  · rintro S hc ⟨f0, f1, f12, hp⟩
    have : a = b := list_ext_nth hl' hp
    simp [f0, f1, f12, hc, this]

def c_same7 : MFunc := ⟨17, [.tmp 4], .seq (.region [⟨some 2, .box 0 27 (.tmp 0), none⟩, ⟨some 3, .box 1 27 (.tmp 1), none⟩, ⟨some 4, .mv (.c (.one (.t (.bool false)))), none⟩]) (.seq (.region [⟨some 5, .fieldA 0 (.tmp 2), none⟩, ⟨some 6, .load false 1 (.tmp 5), none⟩, ⟨some 7, .fieldA 0 (.tmp 3), none⟩, ⟨some 8, .load false 1 (.tmp 7), none⟩, ⟨some 9, .call (.c (.one (.fn 51 []))) 68 [.tmp 6, .tmp 8], none⟩, ⟨some 10, .mv (.tmp 9), none⟩, ⟨some 11, .fieldA 1 (.tmp 2), some (10, true)⟩, ⟨some 12, .load false 1 (.tmp 11), some (10, true)⟩, ⟨some 13, .fieldA 1 (.tmp 3), some (10, true)⟩, ⟨some 14, .load false 1 (.tmp 13), some (10, true)⟩, ⟨some 15, .call (.c (.one (.fn 51 []))) 74 [.tmp 12, .tmp 14], some (10, true)⟩, ⟨some 16, .pick (.tmp 10) (.tmp 15) (.c (.one (.t (.bool false)))), none⟩, ⟨some 4, .mv (.tmp 16), none⟩]) .ret)⟩
theorem k_same7 : cFn Try.prog Try.f15 = some c_same7 := by kernel_rfl
theorem same7_ok (p q : Pa) (hp : tinyP p) (hq : tinyP q) : CallOK Try.prog 15 [p.v, q.v] (.sv (false, [.bool (decide (p.nodes = q.nodes) && decide (p.edges = q.edges))])) := by
  refine callOK_W (callS_W (by kernel_rfl) Try.func15 k_same7 (callable_of Try.func15 (by kernel_rfl)) (by simp [c_same7]) ?_)
  simp [c_same7]
  refine callS_tree (sameInts_ok p.nodes q.nodes hp.1 hq.1) ?_ ?_ ?_
  · rfl
  · rfl
  by_cases h1 : p.nodes = q.nodes
  case neg => simp [h1]
  simp [h1]
  refine callS_tree (sameInts_ok p.edges q.edges hp.2 hq.2) ?_ ?_ ?_
  · rfl
  · rfl
  simp [h1]

def c_clone : MFunc := ⟨8, [.tmp 2], .seq (.region [⟨some 2, .mv (.c (.one .nil)), none⟩]) (.seq (.seq (.region [⟨some 3, .mv (.tmp 0), none⟩, ⟨some 4, .isnil false (.tmp 3), none⟩]) (.cond (.tmp 4) (.seq (.region [⟨some 2, .mv (.c (.one .nil)), none⟩]) .ret) .skip)) (.seq (.region [⟨some 5, .mkrow 192 3 1 0 [] [], none⟩, ⟨some 6, .mv (.tmp 0), none⟩, ⟨some 7, .append 194 3 1 8 (.tmp 5) (.tmp 6), none⟩, ⟨some 2, .mv (.tmp 7), none⟩]) .ret))⟩
theorem k_clone : cFn Try.prog Try.f45 = some c_clone := by kernel_rfl
theorem clone_row (l : List Int) (hl : tiny l.length) : RowI Try.prog 45 [(false, [ints l])] 3 l := by
  refine callRow_W (plain_ints _) (by simp) (by omega) (callS_W (by kernel_rfl) Try.func45 k_clone (callable_of Try.func45 (by kernel_rfl)) (by simp [c_clone]) ?_)
  simp only [tiny] at hl
  simp [c_clone, kNil]
  refine ⟨?_, fun h0 => by subst h0; simp [rowIs]⟩
  by_cases h0 : l = []
  · subst h0
    simp [kApp, evApp, rowIs]
  · have hpos : 0 < l.length := List.length_pos_iff.2 h0
    refine kApp_grow (n := 0) (cs := []) (ts := l.map (.int .i64)) (by simp) outR_nil hpos (by simp) (by omega) (by omega) fun E hE hob hcnt => ?_
    obtain ⟨u, hu⟩ := hE.one
    rw [hu] at hE
    simp [hu]
    simpa using hE.rowIs

def c_copied : MFunc := ⟨10, [.cell 2 true 2], .seq (.region [⟨some 1, .box 0 27 (.tmp 0), none⟩, ⟨some 2, .alloc 1 27 [.nil, .nil], none⟩]) (.seq (.draw [[], [0], [1], [], [3], [4, 2], [2, 5], [6, 5, 0, 1, 2, 3, 4, 5, 6]] [⟨some 3, .fieldA 0 (.tmp 1), none⟩, ⟨some 4, .load false 1 (.tmp 3), none⟩, ⟨some 5, .call (.c (.one (.fn 45 []))) 66 [.tmp 4], none⟩, ⟨some 6, .fieldA 1 (.tmp 1), none⟩, ⟨some 7, .load false 1 (.tmp 6), none⟩, ⟨some 8, .call (.c (.one (.fn 45 []))) 69 [.tmp 7], none⟩, ⟨some 9, .build [.nil, .nil] [(0, (1, .tmp 5)), (1, (1, .tmp 8))], none⟩, ⟨none, .store 2 (.tmp 2) (.tmp 9), none⟩]) .ret)⟩
theorem k_copied : cFn Try.prog Try.f13 = some c_copied := by kernel_rfl
theorem copied_ok (p : Pa) (hp : tinyP p) : CallOK Try.prog 13 [p.v] (.sv p.v) := by
  refine callOK_W (callS_W (by kernel_rfl) Try.func13 k_copied (callable_of Try.func13 (by kernel_rfl)) (by simp [c_copied]) ?_)
  simp [c_copied, dw0, dw1, dw2, dw3]
  refine dCall_ok (clone_row p.nodes hp.1).ok ?_ ?_ ?_
  · rfl
  · rfl
  simp [dw0, dw1, dw2, dw3]
  refine dCall_ok (clone_row p.edges hp.2).ok ?_ ?_ ?_
  · rfl
  · rfl
  simp [dw0, dw1, dw2, dw3]
  rfl

def fewG (g : Gr) : Bool := decide ((g.nodes.length : Int) ≤ 45) && decide ((g.edges.length : Int) ≤ 90)
def fewP (p : Pa) (n : Int) : Bool := decide ((p.nodes.length : Int) + p.edges.length ≤ n)

def c_few5 : MFunc := ⟨13, [.tmp 2], .seq (.region [⟨some 1, .box 0 25 (.tmp 0), none⟩, ⟨some 2, .mv (.c (.one (.t (.bool false)))), none⟩]) (.seq (.region [⟨some 3, .fieldA 0 (.tmp 1), none⟩, ⟨some 4, .load false 1 (.tmp 3), none⟩, ⟨some 5, .len (.tmp 4), none⟩, ⟨some 6, .bin .leq (.tmp 5) (.c (.one (.t (.int .i64 45)))), none⟩, ⟨some 7, .mv (.tmp 6), none⟩, ⟨some 8, .fieldA 1 (.tmp 1), some (7, true)⟩, ⟨some 9, .load false 1 (.tmp 8), some (7, true)⟩, ⟨some 10, .len (.tmp 9), some (7, true)⟩, ⟨some 11, .bin .leq (.tmp 10) (.c (.one (.t (.int .i64 90)))), some (7, true)⟩, ⟨some 12, .pick (.tmp 7) (.tmp 11) (.c (.one (.t (.bool false)))), none⟩, ⟨some 2, .mv (.tmp 12), none⟩]) .ret)⟩
theorem k_few5 : cFn Try.prog Try.f39 = some c_few5 := by kernel_rfl
theorem few5_ok (g : Gr) : CallOK Try.prog 39 [g.v] (.sv (false, [.bool (fewG g)])) := by
  refine callOK_W (callS_W (by kernel_rfl) Try.func39 k_few5 (callable_of Try.func39 (by kernel_rfl)) (by simp [c_few5]) ?_)
  by_cases h : (g.nodes.length : Int) ≤ 45 <;> simp [c_few5, fewG, h]

/-- Lengths that a slice in memory can have. -/
abbrev huge (n : Nat) : Prop := n ≤ 4000000000000000000

def c_few7 : MFunc := ⟨14, [.tmp 4], .seq (.region [⟨some 2, .box 0 27 (.tmp 0), none⟩, ⟨some 4, .mv (.c (.one (.t (.bool false)))), none⟩]) (.seq (.region [⟨some 5, .fieldA 0 (.tmp 2), none⟩, ⟨some 6, .load false 1 (.tmp 5), none⟩, ⟨some 7, .len (.tmp 6), none⟩, ⟨some 8, .fieldA 1 (.tmp 2), none⟩, ⟨some 9, .load false 1 (.tmp 8), none⟩, ⟨some 10, .len (.tmp 9), none⟩, ⟨some 11, .bin .add (.tmp 7) (.tmp 10), none⟩, ⟨some 12, .mv (.tmp 1), none⟩, ⟨some 13, .bin .leq (.tmp 11) (.tmp 12), none⟩, ⟨some 4, .mv (.tmp 13), none⟩]) .ret)⟩
theorem k_few7 : cFn Try.prog Try.f20 = some c_few7 := by kernel_rfl
theorem few7_ok (p : Pa) (n : Int) (h1 : huge p.nodes.length) (h2 : huge p.edges.length) : CallOK Try.prog 20 [p.v, (false, [.int .i64 n])] (.sv (false, [.bool (fewP p n)])) := by
  refine callOK_W (callS_W (by kernel_rfl) Try.func20 k_few7 (callable_of Try.func20 (by kernel_rfl)) (by simp [c_few7]) ?_)
  have hw : IntKind.i64.wrap ((p.nodes.length : Int) + p.edges.length) = (p.nodes.length : Int) + p.edges.length := by
    simp only [huge] at h1 h2
    rw [wrap64_id] <;> omega
  simp [c_few7, fewP, hw]

def c_few6 : MFunc := ⟨14, [.tmp 4], .seq (.region [⟨some 2, .box 0 28 (.tmp 0), none⟩, ⟨some 4, .mv (.c (.one (.t (.bool false)))), none⟩]) (.seq (.region [⟨some 5, .fieldA 0 (.tmp 2), none⟩, ⟨some 6, .load false 1 (.tmp 5), none⟩, ⟨some 7, .len (.tmp 6), none⟩, ⟨some 8, .fieldA 1 (.tmp 2), none⟩, ⟨some 9, .load false 1 (.tmp 8), none⟩, ⟨some 10, .len (.tmp 9), none⟩, ⟨some 11, .bin .add (.tmp 7) (.tmp 10), none⟩, ⟨some 12, .mv (.tmp 1), none⟩, ⟨some 13, .bin .leq (.tmp 11) (.tmp 12), none⟩, ⟨some 4, .mv (.tmp 13), none⟩]) .ret)⟩
theorem k_few6 : cFn Try.prog Try.f40 = some c_few6 := by kernel_rfl
theorem few6_ok (p : Pa) (n : Int) (h1 : huge p.nodes.length) (h2 : huge p.edges.length) : CallOK Try.prog 40 [p.v, (false, [.int .i64 n])] (.sv (false, [.bool (fewP p n)])) := by
  refine callOK_W (callS_W (by kernel_rfl) Try.func40 k_few6 (callable_of Try.func40 (by kernel_rfl)) (by simp [c_few6]) ?_)
  have hw : IntKind.i64.wrap ((p.nodes.length : Int) + p.edges.length) = (p.nodes.length : Int) + p.edges.length := by
    simp only [huge] at h1 h2
    rw [wrap64_id] <;> omega
  simp [c_few6, fewP, hw]

def fewC (l g : Gr) (p m : Pa) : Bool := fewG l && fewG g && fewP p 140 && fewP m 140
def c_few : MFunc := ⟨21, [.tmp 2], .seq (.region [⟨some 1, .box 0 30 (.tmp 0), none⟩, ⟨some 2, .mv (.c (.one (.t (.bool false)))), none⟩]) (.seq (.region [⟨some 3, .fieldA 0 (.tmp 1), none⟩, ⟨some 4, .load true 2 (.tmp 3), none⟩, ⟨some 5, .call (.c (.one (.fn 39 []))) 66 [.tmp 4], none⟩, ⟨some 6, .mv (.tmp 5), none⟩, ⟨some 7, .fieldA 2 (.tmp 1), some (6, true)⟩, ⟨some 8, .load true 2 (.tmp 7), some (6, true)⟩, ⟨some 9, .call (.c (.one (.fn 39 []))) 70 [.tmp 8], some (6, true)⟩, ⟨some 10, .pick (.tmp 6) (.tmp 9) (.c (.one (.t (.bool false)))), none⟩, ⟨some 11, .mv (.tmp 10), none⟩, ⟨some 12, .fieldA 4 (.tmp 1), some (11, true)⟩, ⟨some 13, .load true 2 (.tmp 12), some (11, true)⟩, ⟨some 14, .call (.c (.one (.fn 20 []))) 75 [.tmp 13, .c (.one (.t (.int .i64 140)))], some (11, true)⟩, ⟨some 15, .pick (.tmp 11) (.tmp 14) (.c (.one (.t (.bool false)))), none⟩, ⟨some 16, .mv (.tmp 15), none⟩, ⟨some 17, .fieldA 6 (.tmp 1), some (16, true)⟩, ⟨some 18, .load true 2 (.tmp 17), some (16, true)⟩, ⟨some 19, .call (.c (.one (.fn 40 []))) 80 [.tmp 18, .c (.one (.t (.int .i64 140)))], some (16, true)⟩, ⟨some 20, .pick (.tmp 16) (.tmp 19) (.c (.one (.t (.bool false)))), none⟩, ⟨some 2, .mv (.tmp 20), none⟩]) .ret)⟩
theorem k_few : cFn Try.prog Try.f11 = some c_few := by kernel_rfl
theorem few_ok (l g : Gr) (p m : Pa) (h1 : huge p.nodes.length) (h2 : huge p.edges.length) (h3 : huge m.nodes.length) (h4 : huge m.edges.length) : CallOK Try.prog 11 [gluV l g p m] (.sv (false, [.bool (fewC l g p m)])) := by
  refine callOK_W (callS_W (by kernel_rfl) Try.func11 k_few (callable_of Try.func11 (by kernel_rfl)) (by simp [c_few]) ?_)
  simp [c_few, gluV]
  refine callS_tree (few5_ok l) ?_ ?_ ?_
  · rfl
  · rfl
  cases e1 : fewG l
  · simp [fewC, e1]
  simp [gluV, e1]
  refine callS_tree (few5_ok g) ?_ ?_ ?_
  · rfl
  · rfl
  cases e2 : fewG g
  · simp [fewC, e1, e2]
  simp [gluV, e1, e2]
  refine callS_tree (few7_ok p 140 h1 h2) ?_ ?_ ?_
  · rfl
  · rfl
  cases e3 : fewP p 140
  · simp [fewC, e1, e2, e3]
  simp [gluV, e1, e2, e3]
  refine callS_tree (few6_ok m 140 h3 h4) ?_ ?_ ?_
  · rfl
  · rfl
  simp [fewC, e1, e2, e3]

/-- The dangling edges, or an error. -/
def danglR (l g : Gr) (p m : Pa) : List Int × Int := if caseErr l g p m = 0 then (danglL g p m, 0) else ([], caseErr l g p m)

def c_dangX : MFunc := ⟨24, [.tmp 8, .tmp 9], .seq (.region [⟨some 4, .box 0 25 (.tmp 0), none⟩, ⟨some 5, .box 1 25 (.tmp 1), none⟩, ⟨some 6, .box 2 27 (.tmp 2), none⟩, ⟨some 7, .box 3 28 (.tmp 3), none⟩, ⟨some 8, .mv (.c (.one .nil)), none⟩, ⟨some 9, .mv (.c (.one (.t (.int .i64 0)))), none⟩]) (.seq (.region [⟨some 12, .load true 2 (.tmp 4), none⟩, ⟨some 13, .load true 2 (.tmp 5), none⟩, ⟨some 14, .load true 2 (.tmp 6), none⟩, ⟨some 15, .load true 2 (.tmp 7), none⟩, ⟨some 16, .build [.nil, .nil, .nil, .nil, .nil, .nil, .nil, .nil] [(0, (2, .tmp 12)), (2, (2, .tmp 13)), (4, (2, .tmp 14)), (6, (2, .tmp 15))], none⟩, ⟨some 10, .alloc 69 77 [.nil, .nil, .nil, .nil, .nil, .nil, .nil, .nil], none⟩, ⟨none, .store 8 (.tmp 10) (.tmp 16), none⟩]) (.seq (.seq (.region [⟨some 17, .load true 8 (.tmp 10), none⟩, ⟨some 18, .call (.c (.one (.fn 41 []))) 129 [.tmp 17], none⟩, ⟨some 11, .mv (.tmp 18), none⟩]) (.seq (.region [⟨some 19, .mv (.tmp 11), none⟩, ⟨some 20, .bin .neq (.tmp 19) (.c (.one (.t (.int .i64 0)))), none⟩]) (.cond (.tmp 20) (.seq (.region [⟨some 21, .mv (.tmp 11), none⟩, ⟨some 8, .mv (.c (.one .nil)), none⟩, ⟨some 9, .mv (.tmp 21), none⟩]) .ret) .skip))) (.seq (.region [⟨some 22, .load true 8 (.tmp 10), none⟩, ⟨some 23, .call (.c (.one (.fn 43 []))) 321 [.tmp 22], none⟩, ⟨some 8, .mv (.tmp 23), none⟩, ⟨some 9, .mv (.c (.one (.t (.int .i64 0)))), none⟩]) .ret)))⟩
theorem k_dangX : cFn Try.prog Try.f23 = some c_dangX := by kernel_rfl
theorem dangX_ok (l g : Gr) (p m : Pa) (h : TinyCase l g p m) : CallOK Try.prog 23 [l.v, g.v, p.v, m.v] (.tup [(false, [ints (danglR l g p m).1]), (false, [.int .i64 (danglR l g p m).2])]) := by
  refine callOK_W (callS_W (by kernel_rfl) Try.func23 k_dangX (callable_of Try.func23 (by kernel_rfl)) (by simp [c_dangX]) ?_)
  simp [c_dangX]
  refine callS_tree (given_ok l g p m h) ?_ ?_ ?_
  · rfl
  · rfl
  by_cases h1 : caseErr l g p m = 0
  case neg =>
    have e : danglR l g p m = ([], caseErr l g p m) := by simp [danglR, h1]
    simp [h1, e]
  have e : danglR l g p m = (danglL g p m, 0) := by simp [danglR, h1]
  simp [h1, e]
  refine callS_tree (dangling_row l g p m h.tg h.tm h.tp).ok ?_ ?_ ?_
  · rfl
  · rfl
  simp [h1, e]
end Go.Proofs.Ythapbbpdcjmmfaa

/- Calls that write into a row that they are given: sorting, and leaving out what repeats. -/
namespace Go.Proofs.Ythapbbpdcjmmfaa.Abs
open Go.RowKit Go.Sort
set_option linter.unusedVariables false
set_option linter.unusedSimpArgs false

section
variable {P : Program} {w w' w0 : World} {Zc : Nat → Prop} {m : Map} {ob : Nm → Option Ob} {cnt : Nat → Nat}

/-- A row's object holds new numbers. -/
theorem hr_put (h : HR w0 Zc m ob cnt w) {o : Nm} {x : Ob} {zs ts : List Int} (ho : ob o = some x) (hl : x.live = true) (hrow : x.isRow = true) (hf : x.frz = false) (hesz : x.esz = 1) (hn : x.n = zs.length) (hc : x.cells = zs.map fun z => .t (.int .i64 z)) (hlen : ts.length = zs.length)
    {n : Nat} {os : Array Obj} (hw : w' = grow (putRow (Value.int .i64) (Sort.ahead w n) (m.at_ o) 0 ts.toArray) os) :
    HR w0 Zc m (upd ob o (some { x with cells := ts.map fun z => .t (.int .i64 z) })) cnt w' ∧ Ext w (vol m ob Zc) m ob w' (vol m (upd ob o (some { x with cells := ts.map fun z => .t (.int .i64 z) })) Zc) m (upd ob o (some { x with cells := ts.map fun z => .t (.int .i64 z) })) := by
  obtain ⟨hbase, arr, h1, h2, h3⟩ := h.obs o x ho hl
  rw [if_pos hrow] at h2
  have hg := grownBy_sortedI (w := w) (g := m.at_ o) (n := n) (os := os) ts.toArray
  rw [← hw] at hg
  have hh := heap_sortedI (n := n) (os := os) ts.toArray h1
  rw [← hw] at hh
  have hother : ∀ k, k < w.heap.size → k ≠ m.at_ o → w'.heap[k]? = w.heap[k]? := fun k hk hne => hg.block k hk (fun e => hne (by injection e))
  have hz : vol m ob Zc (m.at_ o) := .inr ⟨o, x, ho, hl, hf, rfl⟩
  have hvol : ∀ q, vol m (upd ob o (some { x with cells := ts.map fun z => .t (.int .i64 z) })) Zc q → vol m ob Zc q := by
    rintro q (hq | ⟨p, y, hpy, hyl, hyf, e⟩)
    · exact .inl hq
    · by_cases e' : p = o
      · subst e'
        exact .inr ⟨p, x, ho, hl, hf, e⟩
      · rw [upd_ne _ _ e'] at hpy
        exact .inr ⟨p, y, hpy, hyl, hyf, e⟩
  have ex : Ext w (vol m ob Zc) m ob w' (vol m (upd ob o (some { x with cells := ts.map fun z => .t (.int .i64 z) })) Zc) m (upd ob o (some { x with cells := ts.map fun z => .t (.int .i64 z) })) := by
    refine ⟨⟨fun k hk hlt => hother k hlt (fun e => hk (e ▸ hz)), fun k _ hk => hvol k hk, hg.size⟩, fun _ _ => rfl, fun _ _ => rfl, fun p y hp => ?_⟩
    by_cases e' : p = o
    · subst e'
      rw [ho] at hp
      injection hp with hp
      subst hp
      exact ⟨_, upd_same .., rfl, rfl⟩
    · exact ⟨y, by rw [upd_ne _ _ e']; exact hp, rfl, rfl⟩
  have hfit : zs.length ≤ arr.size := by
    have := h2.2.1
    have := h2.1
    rw [hesz] at this
    omega
  refine ⟨⟨h.below.trans ⟨hg.os, hg.tape, hg.output, hg.size, fun k hk => hother k (Nat.lt_of_lt_of_le hk h.size) (by omega)⟩, h.zc, fun nm g hgt => ?_, fun p y hp hyl => ?_, fun p y p' y' hp hyl hp' hyl' he => ?_⟩, ex⟩
  · have hnn := h.fresh nm g hgt
    rw [upd_ne _ _ (by rintro rfl; rw [ho] at hnn; cases hnn)]
    exact hnn
  · by_cases e' : p = o
    · subst e'
      rw [upd_same] at hp
      injection hp with hp
      subst hp
      refine ⟨hbase, _, hh, ?_, fun j v hv => ?_⟩
      · simp only [hrow, if_true]
        refine ⟨by simp [putCells]; exact h2.1, h2.2.1, h2.2.2.1, by simp [hlen, hn, hesz], h2.2.2.2.2.1, fun v hv => ?_⟩
        obtain ⟨z, _, rfl⟩ := List.mem_map.1 hv
        exact ⟨_, rfl⟩
      · simp only [List.getElem?_map, Option.map_eq_some_iff] at hv
        obtain ⟨z, hz', rfl⟩ := hv
        have ht := take_putCellsI arr ts (by omega)
        have hj : j < ts.length := (List.getElem?_eq_some_iff.1 hz').1
        have h5 : ((putCells (Value.int .i64) 0 ts.toArray arr).toList.take ts.length)[j]? = (ts.map (Value.int .i64))[j]? := by rw [ht]
        rw [List.getElem?_take_of_lt hj, Array.getElem?_toList] at h5
        refine ⟨.int .i64 z, by rw [h5]; simp [hz'], rfl, CR.int _ _⟩
    · rw [upd_ne _ _ e'] at hp
      refine OR.ext ex (by rw [hp]; simp) (hother _ (h.at_lt hp hyl) fun e => e' (h.inj p y o x hp hyl ho hl e)) (h.obs p y hp hyl)
  · have back : ∀ (p : Nm) (y : Ob), upd ob o (some { x with cells := ts.map fun z => .t (.int .i64 z) }) p = some y → y.live = true → ∃ z, ob p = some z ∧ z.live = true := by
      intro p y hp hyl
      by_cases e' : p = o
      · subst e'
        exact ⟨x, ho, hl⟩
      · rw [upd_ne _ _ e'] at hp
        exact ⟨y, hp, hyl⟩
    obtain ⟨z, q1, q2⟩ := back p y hp hyl
    obtain ⟨z', q1', q2'⟩ := back p' y' hp' hyl'
    exact h.inj p z p' z' q1 q2 q1' q2' he

theorem holds_row (h : HR w0 Zc m ob cnt w) {o : Nm} {x : Ob} {zs : List Int} (ho : ob o = some x) (hl : x.live = true) (hrow : x.isRow = true) (hc : x.cells = zs.map fun z => .t (.int .i64 z)) : Holds (Value.int .i64) w (m.at_ o) 0 zs.toArray := by
  obtain ⟨hbase, arr, h1, h2, h3⟩ := h.obs o x ho hl
  refine holds_of_blockI h1 ?_
  apply List.ext_getElem?
  intro j
  by_cases hj : j < zs.length
  · rw [List.getElem?_take_of_lt hj, Array.getElem?_toList]
    obtain ⟨u, g1, _, g3⟩ := h3 j (.t (.int .i64 zs[j])) (by rw [hc]; simp [hj])
    rw [g1]
    have : u = .int .i64 zs[j] := by
      cases (show CR w (vol m ob Zc) (.int .i64 zs[j]) u from g3)
      rfl
    rw [this]
    simp [hj]
  · rw [List.getElem?_take_eq_none (by omega), List.getElem?_eq_none (by simp; omega)]

/-- What the library says of its sort. -/
def SortSaid (P : Program) (f : FuncId) : Prop := (∀ (blk cap : Nat) (zs : List Int) (w : World), Holds (Value.int .i64) w blk 0 zs.toArray → blk < w.heap.size → zs.length < 4611686018427387904 →
    Calls P f #[.slice (some ⟨blk, 0, none⟩) zs.length cap] w fun e w' => e = .returned (.tuple #[]) ∧ ∃ n os, w' = grow (putRow (Value.int .i64) (Sort.ahead w n) blk 0 (zs.mergeSort fun x y => decide (x ≤ y)).toArray) os) ∧
  (∀ (p : Option Addr) (cap : Nat) (w : World), Calls P f #[.slice p 0 cap] w fun e w' => e = .returned (.tuple #[]) ∧ w' = w) ∧ callable P f = true

theorem callS_sort {f : FuncId} (hs : SortSaid P f) {R : AV → (Nm → Option Ob) → (Nat → Nat) → Prop} {o : Nm} {x : Ob} {zs : List Int} (ho : ob o = some x) (hl : x.live = true) (hrow : x.isRow = true) (hf : x.frz = false) (hesz : x.esz = 1) (hn : x.n = zs.length) (hc : x.cells = zs.map fun z => .t (.int .i64 z))
    (hbig : zs.length < 4611686018427387904) (hR : R (.tup []) (upd ob o (some { x with cells := (zs.mergeSort fun x y => decide (x ≤ y)).map fun z => .t (.int .i64 z) })) cnt) : CallS P f [.one (.row o)] ob cnt R := by
  refine ⟨hs.2.2, fun w0 Zc m w cargs hr hlen hargs => ?_⟩
  have h0 : cargs.size = 1 := by simpa using hlen.symm
  obtain ⟨x', hx', _, hv⟩ := hargs 0 (.one (.row o)) cargs[0] rfl (by simp [h0])
  rw [ho] at hx'
  injection hx' with hx'
  subst hx'
  have e : cargs = #[.slice (some ⟨m.at_ o, 0, none⟩) zs.length (m.cap o)] := by
    rw [hn] at hv
    apply Array.ext (by simp [h0])
    intro i h1 h2
    have : i = 0 := by omega
    subst this
    simpa using hv
  rw [e]
  refine (hs.1 (m.at_ o) (m.cap o) zs w (holds_row hr ho hl hrow hc) (hr.at_lt ho hl) hbig).mono ?_
  rintro e w' ⟨rfl, n, os, hw⟩
  obtain ⟨g1, g2⟩ := hr_put hr ho hl hrow hf hesz hn hc (by simp) hw
  exact ⟨_, _, _, _, m, rfl, hR, g1, g2, #[], rfl, rfl, fun j s u hs => by simp at hs⟩

theorem callS_sort_nil {f : FuncId} (hs : SortSaid P f) {R : AV → (Nm → Option Ob) → (Nat → Nat) → Prop} (hR : R (.tup []) ob cnt) : CallS P f [.one .nil] ob cnt R := by
  refine ⟨hs.2.2, fun w0 Zc m w cargs hr hlen hargs => ?_⟩
  have h0 : cargs.size = 1 := by simpa using hlen.symm
  obtain ⟨A, hv⟩ := hargs 0 (.one .nil) cargs[0] rfl (by simp [h0])
  have e : cargs = #[.slice A 0 0] := by
    apply Array.ext (by simp [h0])
    intro i h1 h2
    have : i = 0 := by omega
    subst this
    simpa using hv
  rw [e]
  refine (hs.2.1 A 0 w).mono ?_
  rintro e w' ⟨rfl, rfl⟩
  exact ⟨_, _, ob, cnt, m, rfl, hR, hr, Ext.refl .., #[], rfl, rfl, fun j s u hs => by simp at hs⟩

/-- A row is cut: the old name is dead, a new one stands for what is left. -/
theorem hr_cut (h : HR w0 Zc m ob cnt w) {o : Nm} {x : Ob} (k nm : Nat) (ho : ob o = some x) (hl : x.live = true) (hrow : x.isRow = true) (hf : x.frz = false) (hesz : x.esz = 1) (hk : k ≤ x.n) :
    HR w0 Zc (m.set (nm, cnt nm) (m.at_ o) (m.cap o)) (upd (upd ob o (some { x with live := false })) (nm, cnt nm) (some { x with n := k, cells := x.cells.take k })) (upd cnt nm (cnt nm + 1)) w ∧
      Ext w (vol m ob Zc) m ob w (vol (m.set (nm, cnt nm) (m.at_ o) (m.cap o)) (upd (upd ob o (some { x with live := false })) (nm, cnt nm) (some { x with n := k, cells := x.cells.take k })) Zc) (m.set (nm, cnt nm) (m.at_ o) (m.cap o))
        (upd (upd ob o (some { x with live := false })) (nm, cnt nm) (some { x with n := k, cells := x.cells.take k })) := by
  have hfr : ob (nm, cnt nm) = none := h.fresh nm _ (Nat.le_refl _)
  have hno : o ≠ (nm, cnt nm) := fun e => by rw [← e, ho] at hfr; cases hfr
  have hne : ∀ p, ob p ≠ none → p ≠ (nm, cnt nm) := fun p hp e => hp (e ▸ hfr)
  have get : ∀ (p : Nm) (y : Ob), upd (upd ob o (some { x with live := false })) (nm, cnt nm) (some { x with n := k, cells := x.cells.take k }) p = some y → y.live = true → (p = (nm, cnt nm) ∧ y = { x with n := k, cells := x.cells.take k }) ∨ (p ≠ (nm, cnt nm) ∧ p ≠ o ∧ ob p = some y) := by
    intro p y hp hyl
    by_cases e1 : p = (nm, cnt nm)
    · subst e1
      rw [upd_same] at hp
      injection hp with hp
      exact .inl ⟨rfl, hp.symm⟩
    · rw [upd_ne _ _ e1] at hp
      by_cases e2 : p = o
      · subst e2
        rw [upd_same] at hp
        injection hp with hp
        subst hp
        cases hyl
      · rw [upd_ne _ _ e2] at hp
        exact .inr ⟨e1, e2, hp⟩
  have at_new : (m.set (nm, cnt nm) (m.at_ o) (m.cap o)).at_ (nm, cnt nm) = m.at_ o := by simp [Map.set, upd_same]
  have cap_new : (m.set (nm, cnt nm) (m.at_ o) (m.cap o)).cap (nm, cnt nm) = m.cap o := by simp [Map.set, upd_same]
  have at_old : ∀ p, p ≠ (nm, cnt nm) → (m.set (nm, cnt nm) (m.at_ o) (m.cap o)).at_ p = m.at_ p := fun p hp => upd_ne _ _ hp
  have cap_old : ∀ p, p ≠ (nm, cnt nm) → (m.set (nm, cnt nm) (m.at_ o) (m.cap o)).cap p = m.cap p := fun p hp => upd_ne _ _ hp
  have ex : Ext w (vol m ob Zc) m ob w (vol (m.set (nm, cnt nm) (m.at_ o) (m.cap o)) (upd (upd ob o (some { x with live := false })) (nm, cnt nm) (some { x with n := k, cells := x.cells.take k })) Zc) (m.set (nm, cnt nm) (m.at_ o) (m.cap o))
        (upd (upd ob o (some { x with live := false })) (nm, cnt nm) (some { x with n := k, cells := x.cells.take k })) := by
    refine ⟨⟨fun _ _ _ => rfl, fun b _ hb => ?_, Nat.le_refl _⟩, fun p hp => at_old p (hne p hp), fun p hp => cap_old p (hne p hp), fun p y hp => ?_⟩
    · rcases hb with hb | ⟨p, y, hp, hyl, hyf, e⟩
      · exact .inl hb
      · rcases get p y hp hyl with ⟨rfl, rfl⟩ | ⟨e1, e2, hp'⟩
        · exact .inr ⟨o, x, ho, hl, hf, by rw [← e, at_new]⟩
        · exact .inr ⟨p, y, hp', hyl, hyf, by rw [← e, at_old p e1]⟩
    · rw [upd_ne _ _ (hne p (by rw [hp]; simp))]
      by_cases e2 : p = o
      · subst e2
        rw [ho] at hp
        injection hp with hp
        subst hp
        exact ⟨_, upd_same .., rfl, rfl⟩
      · exact ⟨y, by rw [upd_ne _ _ e2]; exact hp, rfl, rfl⟩
  refine ⟨⟨h.below, h.zc, fun n g hg => ?_, fun p y hp hyl => ?_, fun p y p' y' hp hyl hp' hyl' he => ?_⟩, ex⟩
  · by_cases e1 : n = nm
    · subst e1
      rw [upd_same] at hg
      rw [upd_ne _ _ (by intro e2; injection e2; omega)]
      have := h.fresh n g (by omega)
      rw [upd_ne _ _ (by rintro rfl; rw [ho] at this; cases this)]
      exact this
    · rw [upd_ne _ _ e1] at hg
      rw [upd_ne _ _ (by intro e2; injection e2; exact e1 (by assumption))]
      have := h.fresh n g hg
      rw [upd_ne _ _ (by rintro rfl; rw [ho] at this; cases this)]
      exact this
  · rcases get p y hp hyl with ⟨rfl, rfl⟩ | ⟨e1, e2, hp'⟩
    · obtain ⟨b1, arr, b2, b3, b4⟩ := h.obs o x ho hl
      rw [if_pos hrow] at b3
      refine ⟨by rw [at_new]; exact b1, arr, by rw [at_new]; exact b2, ?_, fun j v hv => ?_⟩
      · simp only [hrow, if_true, cap_new]
        refine ⟨b3.1, by omega, b3.2.2.1, ?_, b3.2.2.2.2.1, fun v hv => b3.2.2.2.2.2 v (List.mem_of_mem_take hv)⟩
        rw [List.length_take, b3.2.2.2.1, hesz]
        omega
      · simp only at hv
        rw [List.getElem?_take] at hv
        split at hv
        · obtain ⟨u, c1, c2, c3⟩ := b4 j v hv
          exact ⟨u, c1, c2, V1R.ext ex c3⟩
        · cases hv
    · exact OR.ext ex (by rw [hp']; simp) rfl (h.obs p y hp' hyl)
  · rcases get p y hp hyl with ⟨rfl, rfl⟩ | ⟨e1, e2, hq⟩ <;> rcases get p' y' hp' hyl' with ⟨rfl, rfl⟩ | ⟨e1', e2', hq'⟩
    · rfl
    · rw [at_new, at_old p' e1'] at he
      exact absurd (h.inj o x p' y' ho hl hq' hyl' he).symm e2'
    · rw [at_new, at_old p e1] at he
      exact absurd (h.inj p y o x hq hyl ho hl he) e2
    · rw [at_old p e1, at_old p' e1'] at he
      exact h.inj p y p' y' hq hyl hq' hyl' he

/-- What the library says of leaving out what repeats. -/
def CompSaid (P : Program) (f : FuncId) : Prop := (∀ (blk cap : Nat) (zs : List Int) (w : World), Holds (Value.int .i64) w blk 0 zs.toArray → zs.length ≤ 9223372036854775807 → zs.length ≤ cap →
    Calls P f #[.slice (some ⟨blk, 0, none⟩) zs.length cap] w fun e w' => e = .returned (.slice (some ⟨blk, 0, none⟩) (Lib.compact zs).length cap) ∧ ∃ q, w' = putRow (Value.int .i64) (Sort.ahead w q) blk 0 (Lib.compact zs ++ List.replicate (zs.length - (Lib.compact zs).length) 0).toArray) ∧
  (∀ (p : Option Addr) (cap : Nat) (w : World), Calls P f #[.slice p 0 cap] w fun e w' => e = .returned (.slice p 0 cap) ∧ w' = w) ∧ callable P f = true

theorem compact_le (zs : List Int) : (Lib.compact zs).length ≤ zs.length := by
  simp only [Lib.compact, Lib.compactUpTo, List.length_map]
  exact Nat.le_trans (List.length_filter_le _ _) (by simp)

theorem callS_compact {f : FuncId} (hs : CompSaid P f) {R : AV → (Nm → Option Ob) → (Nat → Nat) → Prop} {o : Nm} {x : Ob} {zs ts : List Int} (nm : Nat) (ho : ob o = some x) (hl : x.live = true) (hrow : x.isRow = true) (hf : x.frz = false) (hesz : x.esz = 1) (hn : x.n = zs.length) (hc : x.cells = zs.map fun z => .t (.int .i64 z))
    (hbig : zs.length ≤ 9223372036854775807) (hts : ts = Lib.compact zs ++ List.replicate (zs.length - (Lib.compact zs).length) 0)
    (hR : R (.one (.row (nm, cnt nm))) (upd (upd (upd ob o (some { x with cells := ts.map fun z => .t (.int .i64 z) })) o (some { x with live := false, cells := ts.map fun z => .t (.int .i64 z) })) (nm, cnt nm) (some { x with n := (Lib.compact zs).length, cells := (Lib.compact zs).map fun z => .t (.int .i64 z) })) (upd cnt nm (cnt nm + 1))) : CallS P f [.one (.row o)] ob cnt R := by
  refine ⟨hs.2.2, fun w0 Zc m w cargs hr hlen hargs => ?_⟩
  have h0 : cargs.size = 1 := by simpa using hlen.symm
  obtain ⟨x', hx', _, hv⟩ := hargs 0 (.one (.row o)) cargs[0] rfl (by simp [h0])
  rw [ho] at hx'
  injection hx' with hx'
  subst hx'
  have e : cargs = #[.slice (some ⟨m.at_ o, 0, none⟩) zs.length (m.cap o)] := by
    rw [hn] at hv
    apply Array.ext (by simp [h0])
    intro i h1 h2
    have : i = 0 := by omega
    subst this
    simpa using hv
  have hcap : zs.length ≤ m.cap o := by
    obtain ⟨_, arr, _, h2, _⟩ := hr.obs o x ho hl
    rw [if_pos hrow] at h2
    omega
  rw [e]
  refine (hs.1 (m.at_ o) (m.cap o) zs w (holds_row hr ho hl hrow hc) hbig hcap).mono ?_
  have hcl := compact_le zs
  have htl : ts.length = zs.length := by
    rw [hts]
    simp
    omega
  rintro e w' ⟨rfl, n, hw⟩
  obtain ⟨g1, g2⟩ := hr_put (w' := w') (ts := ts) (n := n) (os := #[]) hr ho hl hrow hf hesz hn hc htl (by rw [grow_empty, hts]; exact hw)
  obtain ⟨k1, k2⟩ := hr_cut g1 (o := o) (x := { x with cells := ts.map fun z => .t (.int .i64 z) }) (Lib.compact zs).length nm (upd_same ..) hl hrow hf hesz (show _ ≤ x.n by omega)
  have et : (ts.map fun z => V1.t (.int .i64 z)).take (Lib.compact zs).length = (Lib.compact zs).map fun z => .t (.int .i64 z) := by
    rw [← List.map_take, hts, List.take_left]
  simp only [et] at k1 k2
  refine ⟨_, _, _, _, _, rfl, hR, k1, g2.trans k2, ?_⟩
  exact ⟨_, upd_same .., hrow, by simp [Map.set, upd_same]⟩

theorem callS_compact_nil {f : FuncId} (hs : CompSaid P f) {R : AV → (Nm → Option Ob) → (Nat → Nat) → Prop} (hR : R (.one .nil) ob cnt) : CallS P f [.one .nil] ob cnt R := by
  refine ⟨hs.2.2, fun w0 Zc m w cargs hr hlen hargs => ?_⟩
  have h0 : cargs.size = 1 := by simpa using hlen.symm
  obtain ⟨A, hv⟩ := hargs 0 (.one .nil) cargs[0] rfl (by simp [h0])
  have e : cargs = #[.slice A 0 0] := by
    apply Array.ext (by simp [h0])
    intro i h1 h2
    have : i = 0 := by omega
    subst this
    simpa using hv
  rw [e]
  refine (hs.2.1 A 0 w).mono ?_
  rintro e w' ⟨rfl, rfl⟩
  exact ⟨_, .one .nil, ob, cnt, m, rfl, hR, hr, Ext.refl .., A, rfl⟩
end
end Go.Proofs.Ythapbbpdcjmmfaa.Abs

/- The library contracts of slices.Sort and slices.Compact at this program, laid by the kit tool. -/
namespace Go.Proofs
open Go.Shelf
def Try.lays189_ren : Go.Shelf.Ren := ⟨fun | 189 => 52 | 125 => 76 | 257 => 75 | 128 => 105 | 129 => 106 | 294 => 97 | 295 => 98 | 296 => 99 | 297 => 100 | 298 => 101 | 299 => 102 | 216 => 86 | 300 => 103 | 301 => 104 | 328 => 127 | 329 => 128 | 330 => 129 | 331 => 130 | 332 => 131 | 215 => 120 | 343 => 138 | n => n, fun | 28 => 22 | 3 => 3 | 46 => 111 | 0 => 0 | 51 => 136 | 53 => 42 | 4 => 4 | 183 => 130 | 182 => 129 | 131 => 101 | 5 => 5 | 9 => 9 | 218 => 151 | 222 => 155 | 228 => 159 | 229 => 160 | n => n, fun | n => n⟩
theorem Try.lays189 : Go.Proofs.Lays.n189 Try.prog Try.lays189_ren := {
  mixed := by kernel_rfl
  f125 := Try.func76.trans (congrArg some (by kernel_rfl))
  f128 := Try.func105.trans (congrArg some (by kernel_rfl))
  f129 := Try.func106.trans (congrArg some (by kernel_rfl))
  f189 := Try.func52.trans (congrArg some (by kernel_rfl))
  f215 := Try.func120.trans (congrArg some (by kernel_rfl))
  f216 := Try.func86.trans (congrArg some (by kernel_rfl))
  f257 := Try.func75.trans (congrArg some (by kernel_rfl))
  f294 := Try.func97.trans (congrArg some (by kernel_rfl))
  f295 := Try.func98.trans (congrArg some (by kernel_rfl))
  f296 := Try.func99.trans (congrArg some (by kernel_rfl))
  f297 := Try.func100.trans (congrArg some (by kernel_rfl))
  f298 := Try.func101.trans (congrArg some (by kernel_rfl))
  f299 := Try.func102.trans (congrArg some (by kernel_rfl))
  f300 := Try.func103.trans (congrArg some (by kernel_rfl))
  f301 := Try.func104.trans (congrArg some (by kernel_rfl))
  f328 := Try.func127.trans (congrArg some (by kernel_rfl))
  f329 := Try.func128.trans (congrArg some (by kernel_rfl))
  f330 := Try.func129.trans (congrArg some (by kernel_rfl))
  f331 := Try.func130.trans (congrArg some (by kernel_rfl))
  f332 := Try.func131.trans (congrArg some (by kernel_rfl))
  f343 := Try.func138.trans (congrArg some (by kernel_rfl))
  t0 := Try.underlying0
  a0 := Try.isAgg0
  z0 := Try.sizeOf0
  v0 := Try.zeroValue0
  t3 := Try.underlying3
  a3 := Try.isAgg3
  z3 := Try.sizeOf3
  v3 := Try.zeroValue3
  t4 := Try.underlying4
  a4 := Try.isAgg4
  z4 := Try.sizeOf4
  v4 := Try.zeroValue4
  t5 := Try.underlying5
  a5 := Try.isAgg5
  z5 := Try.sizeOf5
  v5 := Try.zeroValue5
  t9 := Try.underlying9
  a9 := Try.isAgg9
  z9 := Try.sizeOf9
  v9 := Try.zeroValue9
  t28 := Try.underlying22
  a28 := Try.isAgg22
  z28 := Try.sizeOf22
  v28 := Try.zeroValue22
  t46 := Try.underlying111
  a46 := Try.isAgg111
  z46 := Try.sizeOf111
  v46 := Try.zeroValue111
  t51 := Try.underlying136
  a51 := Try.isAgg136
  z51 := Try.sizeOf136
  v51 := Try.zeroValue136
  t53 := Try.underlying42
  a53 := Try.isAgg42
  z53 := Try.sizeOf42
  v53 := Try.zeroValue42
  t131 := Try.underlying101
  a131 := Try.isAgg101
  z131 := Try.sizeOf101
  v131 := Try.zeroValue101
  t182 := Try.underlying129
  a182 := Try.isAgg129
  z182 := Try.sizeOf129
  v182 := Try.zeroValue129
  t183 := Try.underlying130
  a183 := Try.isAgg130
  z183 := Try.sizeOf130
  v183 := Try.zeroValue130
  t218 := Try.underlying151
  a218 := Try.isAgg151
  z218 := Try.sizeOf151
  v218 := Try.zeroValue151
  t222 := Try.underlying155
  a222 := Try.isAgg155
  z222 := Try.sizeOf155
  v222 := Try.zeroValue155
  t228 := Try.underlying159
  a228 := Try.isAgg159
  z228 := Try.sizeOf159
  v228 := Try.zeroValue159
  t229 := Try.underlying160
  a229 := Try.isAgg160
  z229 := Try.sizeOf160
  v229 := Try.zeroValue160 }
open Go.RowKit Go.Lib Go.Sort in
theorem Try.slices_Sort_int (blk off cap : Nat) (zs : List Int) (w : World) (hH : Holds (Value.int .i64) w blk off zs.toArray) (hblk : blk < w.heap.size) (hsz : zs.length < 4611686018427387904) :
    Calls Try.prog 52 #[.slice (some ⟨blk, off, none⟩) zs.length cap] w fun e w' =>
      e = .returned (.tuple #[]) ∧ ∃ n os, w' = grow (putRow (Value.int .i64) (Sort.ahead w n) blk off (zs.mergeSort fun x y => decide (x ≤ y)).toArray) os := Any.slices_Sort_int Try.lays189 blk off cap zs w hH hblk hsz
def Try.laysNm220_ren : Go.Shelf.Ren := ⟨fun | 20 => 53 | n => n, fun | 22 => 22 | 3 => 3 | 4 => 4 | 0 => 0 | n => n, fun | n => n⟩
theorem Try.laysNm220 : Go.Proofs.Lays2.n20 Try.prog Try.laysNm220_ren := {
  mixed := by kernel_rfl
  f20 := Try.func53.trans (congrArg some (by kernel_rfl))
  t0 := Try.underlying0
  a0 := Try.isAgg0
  z0 := Try.sizeOf0
  v0 := Try.zeroValue0
  t3 := Try.underlying3
  a3 := Try.isAgg3
  z3 := Try.sizeOf3
  v3 := Try.zeroValue3
  t4 := Try.underlying4
  a4 := Try.isAgg4
  z4 := Try.sizeOf4
  v4 := Try.zeroValue4
  t22 := Try.underlying22
  a22 := Try.isAgg22
  z22 := Try.sizeOf22
  v22 := Try.zeroValue22
  i3 := by kernel_rfl }
open Go.RowKit Go.Lib Go.Sort in
theorem Try.slices_Compact_int (blk off cap : Nat) (zs : List Int) (w : World) (hH : Holds (Value.int .i64) w blk off zs.toArray) (hsz : zs.length ≤ 9223372036854775807) (hcap : zs.length ≤ cap) :
    Calls Try.prog 53 #[.slice (some ⟨blk, off, none⟩) zs.length cap] w fun e w' => e = .returned (.slice (some ⟨blk, off, none⟩) (Lib.compact zs).length cap) ∧ ∃ q, w' = putRow (Value.int .i64) (Sort.ahead w q) blk off (Lib.compact zs ++ List.replicate (zs.length - (Lib.compact zs).length) 0).toArray := Any.slices_Compact_int Try.laysNm220 blk off cap zs w hH hsz hcap
open Go.RowKit Go.Lib Go.Sort in
theorem Try.slices_Compact_int_empty (a : Option Addr) (cap : Nat) (w : World) :
    Calls Try.prog 53 #[.slice a 0 cap] w fun e w' => e = .returned (.slice a 0 cap) ∧ w' = w := Any.slices_Compact_int_empty Try.laysNm220 a cap w
open Go.RowKit Go.Lib Go.Sort in
theorem Try.slices_Sort_int_none (p : Option Addr) (cap : Nat) (w : World) :
    Calls Try.prog 52 #[.slice p 0 cap] w fun e w' => e = .returned (.tuple #[]) ∧ w' = w := Any.slices_Sort_int_none Try.lays189 p cap w
end Go.Proofs

/- Sorting and leaving out: the list of what is in a list, ascending. -/
namespace Go.Proofs.Ythapbbpdcjmmfaa
open Abs
set_option linter.unusedSimpArgs false
set_option linter.unusedVariables false

theorem sortSaid : SortSaid Try.prog 52 :=
  ⟨fun blk cap zs w h1 h2 h3 => Try.slices_Sort_int blk 0 cap zs w h1 h2 h3, fun p cap w => Try.slices_Sort_int_none p cap w, callable_of Try.func52 (by kernel_rfl)⟩
theorem compSaid : CompSaid Try.prog 53 :=
  ⟨fun blk cap zs w h1 h2 h3 => Try.slices_Compact_int blk 0 cap zs w h1 h2 h3, fun p cap w => Try.slices_Compact_int_empty p cap w, callable_of Try.func53 (by kernel_rfl)⟩

theorem asc_iff {l : List Int} : Asc l ↔ l.Pairwise (· < ·) := by
  rw [List.pairwise_iff_getElem]
  constructor
  · intro h i j hi hj hij
    have := h i j hij hj
    rwa [nth_eq hi, nth_eq hj] at this
  · intro h a b hab hb
    have := h a b (by omega) hb hab
    rw [nth_eq (by omega), nth_eq hb]
    exact this

/-- Ascending lists of the same numbers are one. -/
theorem asc_ext : ∀ {a b : List Int}, a.Pairwise (· < ·) → b.Pairwise (· < ·) → (∀ x, x ∈ a ↔ x ∈ b) → a = b
  | [], [], _, _, _ => rfl
  | [], y :: b, _, _, h => by have := (h y).2 (by simp); cases this
  | x :: a, [], _, _, h => by have := (h x).1 (by simp); cases this
  | x :: a, y :: b, ha, hb, h => by
    rw [List.pairwise_cons] at ha hb
    have hxy : x = y := by
      have h1 := (h x).1 (by simp)
      have h2 := (h y).2 (by simp)
      rcases List.mem_cons.1 h1 with e | e
      · exact e
      · rcases List.mem_cons.1 h2 with e' | e'
        · exact e'.symm
        · have := ha.1 y e'
          have := hb.1 x e
          omega
    subst hxy
    congr 1
    refine asc_ext ha.2 hb.2 fun z => ?_
    constructor
    · intro hz
      have hne := ha.1 z hz
      rcases List.mem_cons.1 ((h z).1 (List.mem_cons_of_mem _ hz)) with e | e
      · omega
      · exact e
    · intro hz
      have hne := hb.1 z hz
      rcases List.mem_cons.1 ((h z).2 (List.mem_cons_of_mem _ hz)) with e | e
      · omega
      · exact e

def canonF (S : List Int) (i : Nat) : Option Int := if (i : Int) ∈ S then some i else none
/-- The numbers below n that are in a list, ascending. -/
def canon (n : Nat) (S : List Int) : List Int := collect (canonF S) n

theorem mem_canon {n : Nat} {S : List Int} {x : Int} : x ∈ canon n S ↔ 0 ≤ x ∧ x < n ∧ x ∈ S := by
  rw [canon, mem_collect]
  constructor
  · rintro ⟨j, hj, h⟩
    simp only [canonF] at h
    split at h
    · injection h with h
      subst h
      exact ⟨by omega, by omega, by assumption⟩
    · cases h
  · rintro ⟨h1, h2, h3⟩
    obtain ⟨j, rfl⟩ := Int.eq_ofNat_of_zero_le h1
    exact ⟨j, by omega, by simp [canonF, h3]⟩

theorem canon_asc {n : Nat} {S : List Int} : (canon n S).Pairwise (· < ·) := by
  induction n with
  | zero => exact List.Pairwise.nil
  | succ n ih =>
    simp only [canon] at ih ⊢
    by_cases h : (n : Int) ∈ S
    · rw [collect_some (x := (n : Int)) (by simp [canonF, h]), List.pairwise_append]
      refine ⟨ih, by simp, fun a ha b hb => ?_⟩
      have h1 := (mem_canon (n := n) (S := S)).1 ha
      simp at hb
      omega
    · rw [collect_none (by simp [canonF, h])]
      exact ih

theorem compact_sorted {zs : List Int} (h : ∀ i j, i ≤ j → j < zs.length → zs.toArray[i]! ≤ zs.toArray[j]!) : ∀ m, m ≤ zs.length → (Lib.compactUpTo zs.toArray m).Pairwise (· < ·) ∧ ∀ x, x ∈ Lib.compactUpTo zs.toArray m ↔ ∃ j, j < m ∧ zs.toArray[j]! = x
  | 0, _ => ⟨by simp [Lib.compactUpTo], fun x => by simp [Lib.compactUpTo]⟩
  | m + 1, hm => by
    obtain ⟨i1, i2⟩ := compact_sorted h m (by omega)
    rw [Lib.compactUpTo_succ]
    cases hk : Lib.keeps zs.toArray m
    · have hk' : ¬ (m = 0 ∨ zs.toArray[m]! ≠ zs.toArray[m - 1]!) := by
        intro e
        rw [Lib.keeps] at hk
        exact absurd e (by simpa using hk)
      have h0 : m ≠ 0 := fun e => hk' (.inl e)
      have h1 : zs.toArray[m]! = zs.toArray[m - 1]! := by
        rcases Decidable.em (zs.toArray[m]! = zs.toArray[m - 1]!) with e | e
        · exact e
        · exact absurd (.inr e) hk'
      simp only [Bool.false_eq_true, if_false, List.append_nil]
      refine ⟨i1, fun x => (i2 x).trans ⟨fun ⟨j, hj, e⟩ => ⟨j, by omega, e⟩, fun ⟨j, hj, e⟩ => ?_⟩⟩
      by_cases hjm : j = m
      · exact ⟨m - 1, by omega, by rw [← h1, ← hjm]; exact e⟩
      · exact ⟨j, by omega, e⟩
    · simp only [if_true]
      constructor
      · rw [List.pairwise_append]
        refine ⟨i1, by simp, fun a ha b hb => ?_⟩
        simp only [List.mem_singleton] at hb
        subst hb
        obtain ⟨j, hj, rfl⟩ := (i2 a).1 ha
        have hk' : m = 0 ∨ zs.toArray[m]! ≠ zs.toArray[m - 1]! := by
          rw [Lib.keeps] at hk
          exact of_decide_eq_true hk
        rcases hk' with e | e
        · omega
        · have h1 := h j (m - 1) (by omega) (by omega)
          have h2 := h (m - 1) m (by omega) (by omega)
          omega
      · intro x
        rw [List.mem_append, i2 x, List.mem_singleton]
        constructor
        · rintro (⟨j, hj, e⟩ | e)
          · exact ⟨j, by omega, e⟩
          · exact ⟨m, by omega, e.symm⟩
        · rintro ⟨j, hj, e⟩
          by_cases hjm : j = m
          · subst hjm
            exact .inr e.symm
          · exact .inl ⟨j, by omega, e⟩

theorem compact_sort_eq {n : Nat} {l : List Int} (h : ∀ x ∈ l, 0 ≤ x ∧ x < n) : Lib.compact (l.mergeSort fun x y => decide (x ≤ y)) = canon n l := by
  have hs : (l.mergeSort fun x y => decide (x ≤ y)).Pairwise (fun x y => (decide (x ≤ y)) = true) :=
    List.pairwise_mergeSort (fun a b c h1 h2 => by simp at *; omega) (fun a b => by simp; omega) l
  have hmem : ∀ x, x ∈ (l.mergeSort fun x y => decide (x ≤ y)) ↔ x ∈ l := fun x => List.mem_mergeSort
  generalize (l.mergeSort fun x y => decide (x ≤ y)) = zs at *
  have get : ∀ i, (hi : i < zs.length) → zs.toArray[i]! = zs[i] := fun i hi => by simp [hi]
  have mono : ∀ i j, i ≤ j → j < zs.length → zs.toArray[i]! ≤ zs.toArray[j]! := fun i j hij hj => by
    rw [get i (by omega), get j hj]
    rcases Nat.lt_or_eq_of_le hij with e | rfl
    · have := List.pairwise_iff_getElem.1 hs i j (by omega) hj e
      simpa using this
    · exact Int.le_refl _
  obtain ⟨c1, c2⟩ := compact_sorted mono zs.length (Nat.le_refl _)
  refine asc_ext c1 canon_asc fun x => ?_
  rw [mem_canon, Lib.compact, c2 x]
  constructor
  · rintro ⟨j, hj, rfl⟩
    rw [get j hj]
    have := (hmem _).1 (List.getElem_mem hj)
    exact ⟨(h _ this).1, (h _ this).2, this⟩
  · rintro ⟨_, _, hx⟩
    obtain ⟨j, hj, rfl⟩ := List.mem_iff_getElem.1 ((hmem x).2 hx)
    exact ⟨j, hj, get j hj⟩
end Go.Proofs.Ythapbbpdcjmmfaa

/- Contracts: the least part with some elements. -/
namespace Go.Proofs.Ythapbbpdcjmmfaa
open Abs
set_option linter.unusedSimpArgs false
set_option linter.unusedVariables false
attribute [local simp] rn0 rn1 rn2 rn3 rn4 rn5 rn6 rn7 evOp nests Arg.ev St.val St.set St.new sliceOf binInt2 binInt AV.cells rdAt St.live retOf resOf resAll treeOf treeCell treeCells treeTups untree frameOf TV.av TR.av ints edgs prs fillV splice intsOf trees V1.tree bx Gr.v Pa.v opRd opWr opNew opNewR opArgs argsRd argRd Arg.rd AV.refs V1.refs refsL dstL

theorem untree_t (cs : List C) : untree (cs.map .t) = some cs := by
  induction cs with
  | nil => rfl
  | cons c r ih => simp [untree, ih]

/-- Marks, as cells. -/
def markB (g : List Int) (n : Nat) : List C := (List.range n).map fun (i : Nat) => C.bool (decide ((i : Int) ∈ g))
theorem markC_eq {g : List Int} {n : Nat} : markC g n = (markB g n).map .t := by simp [markC, markB]
theorem len_markB {g : List Int} {n : Nat} : (markB g n).length = n := by simp [markB]
theorem drop_markB {g : List Int} {n k : Nat} (h : k < n) : (markB g n).drop k = .bool (decide ((k : Int) ∈ g)) :: (markB g n).drop (k + 1) := by
  rw [List.drop_eq_getElem_cons (by rw [len_markB]; exact h)]
  simp [markB]

def c_marked : MFunc := ⟨20, [.tmp 2], .seq (.region [⟨some 2, .mv (.c (.one .nil)), none⟩]) (.seq (.region [⟨some 3, .mv (.c (.one .nil)), none⟩]) (.seq (.seq (.region [⟨some 4, .mv (.c (.one (.t (.int .i64 0)))), none⟩]) (.block 0 (.loop (.seq (.seq (.region [⟨some 5, .mv (.tmp 4), none⟩, ⟨some 6, .mv (.tmp 0), none⟩, ⟨some 7, .len (.tmp 6), none⟩, ⟨some 8, .bin .lss (.tmp 5) (.tmp 7), none⟩]) (.cond (.tmp 8) .skip (.exit 0))) (.seq (.block 1 (.seq (.region [⟨some 11, .mv (.tmp 0), none⟩, ⟨some 12, .mv (.tmp 4), none⟩, ⟨some 13, .idxA 1 (.tmp 11) (.tmp 12), none⟩, ⟨some 14, .load false 1 (.tmp 13), none⟩]) (.cond (.tmp 14) (.region [⟨some 15, .mv (.tmp 3), none⟩, ⟨some 16, .mv (.tmp 4), none⟩, ⟨some 17, .mkrow 386 3 1 1 [.t (.int .i64 0)] [(0, (1, .tmp 16))], none⟩, ⟨some 18, .append 387 3 1 8 (.tmp 15) (.tmp 17), none⟩, ⟨some 3, .mv (.tmp 18), none⟩]) .skip))) (.region [⟨some 9, .mv (.tmp 4), none⟩, ⟨some 10, .bin .add (.tmp 9) (.c (.one (.t (.int .i64 1)))), none⟩, ⟨some 4, .mv (.tmp 10), none⟩])))))) (.seq (.region [⟨some 19, .mv (.tmp 3), none⟩, ⟨some 2, .mv (.tmp 19), none⟩]) .ret)))⟩
theorem k_marked : cFn Try.prog Try.f83 = some c_marked := by kernel_rfl
theorem marked_row (n : Nat) (g : List Int) (hn : tiny n) : RowI Try.prog 83 [(false, [.sl n (markB g n)])] 3 (canon n g) := by
  refine callRow_W (plain_ints _) (by simp) (by omega) (callS_W (by kernel_rfl) Try.func83 k_marked (callable_of Try.func83 (by kernel_rfl)) (by simp [c_marked]) ?_)
  simp [c_marked]
  refine loopW_count 4 n (fun k S => S.fr 0 = .one (.t (.sl n (markB g n))) ∧ outR 387 3 1 (collect (canonF g) k).length ((collect (canonF g) k).map (.int .i64)) S.ob (S.fr 3)) hn.small ?_ ?_ ?_
  · simp [collect_zero, outR_nil]
  · rintro k S hlt hw hc ⟨f0, ho⟩
    have hlen := collect_len (f := canonF g) (k := k)
    simp only [tiny] at hn
    by_cases hm : (k : Int) ∈ g
    · have e : canonF g k = some (k : Int) := by simp [canonF, hm]
      simp [f0, hc, hlt, len_markB, drop_markB hlt, hm, hw]
      refine kApp_grow (ts := [.int .i64 k]) rfl (ho.keep fun g => by simp) (by omega) rfl (by omega) (by omega) fun E hE hob hcnt => ?_
      simp [f0, hc, hw, collect_some e]
      simpa using hE
    · have e : canonF g k = none := by simp [canonF, hm]
      simp [f0, hc, hlt, len_markB, drop_markB hlt, hm, hw, collect_none e, ho]
  · rintro S hc ⟨f0, ho⟩
    obtain ⟨u, hu⟩ := ho.one
    rw [hu] at ho
    simp [f0, hc, hu]
    simpa [canon] using ho.rowIs

/-- The ends of the marked edges. -/
def endsL (g : Gr) (T : List Int) (k : Nat) : List Int := gather (fun i => if (i : Int) ∈ T then [(eth g.edges i).f, (eth g.edges i).g] else []) k

theorem leastM {g : Gr} {T S : List Int} {k : Nat} : S ++ endsL g T (k + 1) = S ++ endsL g T k ++ (if (k : Int) ∈ T then [(eth g.edges k).f, (eth g.edges k).g] else []) := by
  simp [endsL, gather_succ]

def c_least : MFunc := ⟨43, [.cell 6 true 2], .seq (.region [⟨some 3, .box 0 25 (.tmp 0), none⟩, ⟨some 6, .alloc 1 27 [.nil, .nil], none⟩]) (.seq (.region [⟨some 9, .mkrow 64 4 1 0 [] [], none⟩, ⟨some 10, .mv (.tmp 1), none⟩, ⟨some 11, .append 66 4 1 1 (.tmp 9) (.tmp 10), none⟩, ⟨some 7, .mv (.tmp 11), none⟩]) (.seq (.seq (.region [⟨some 8, .mv (.c (.one (.t (.int .i64 0)))), none⟩]) (.block 0 (.loop (.seq (.seq (.region [⟨some 12, .mv (.tmp 8), none⟩, ⟨some 13, .mv (.tmp 2), none⟩, ⟨some 14, .len (.tmp 13), none⟩, ⟨some 15, .bin .lss (.tmp 12) (.tmp 14), none⟩]) (.cond (.tmp 15) .skip (.exit 0))) (.seq (.block 1 (.seq (.region [⟨some 18, .mv (.tmp 2), none⟩, ⟨some 19, .mv (.tmp 8), none⟩, ⟨some 20, .idxA 1 (.tmp 18) (.tmp 19), none⟩, ⟨some 21, .load false 1 (.tmp 20), none⟩]) (.cond (.tmp 21) (.draw [[], [], [1], [], [2, 3], [4], [5], [], [], [8], [], [9, 10], [11], [12], [0, 6, 0, 1, 2, 3, 4, 5, 6, 13], [14, 0, 1, 2, 3, 4, 5, 6, 13], [7, 13, 0, 1, 2, 3, 4, 5, 6, 7, 8, 9, 10, 11, 12, 13, 14, 15], [16, 15, 0, 1, 2, 3, 4, 5, 6, 7, 8, 9, 10, 11, 12, 13, 14, 15]] [⟨some 22, .mv (.tmp 7), none⟩, ⟨some 23, .fieldA 1 (.tmp 3), none⟩, ⟨some 24, .load false 1 (.tmp 23), none⟩, ⟨some 25, .mv (.tmp 8), none⟩, ⟨some 26, .idxA 3 (.tmp 24) (.tmp 25), none⟩, ⟨some 27, .fieldA 1 (.tmp 26), none⟩, ⟨some 28, .load false 1 (.tmp 27), none⟩, ⟨some 29, .mv (.tmp 7), none⟩, ⟨some 30, .fieldA 1 (.tmp 3), none⟩, ⟨some 31, .load false 1 (.tmp 30), none⟩, ⟨some 32, .mv (.tmp 8), none⟩, ⟨some 33, .idxA 3 (.tmp 31) (.tmp 32), none⟩, ⟨some 34, .fieldA 2 (.tmp 33), none⟩, ⟨some 35, .load false 1 (.tmp 34), none⟩, ⟨some 36, .idxA 1 (.tmp 22) (.tmp 28), none⟩, ⟨none, .store 1 (.tmp 36) (.c (.one (.t (.bool true)))), none⟩, ⟨some 37, .idxA 1 (.tmp 29) (.tmp 35), none⟩, ⟨none, .store 1 (.tmp 37) (.c (.one (.t (.bool true)))), none⟩]) .skip))) (.region [⟨some 16, .mv (.tmp 8), none⟩, ⟨some 17, .bin .add (.tmp 16) (.c (.one (.t (.int .i64 1)))), none⟩, ⟨some 8, .mv (.tmp 17), none⟩])))))) (.seq (.region [⟨some 38, .mv (.tmp 7), none⟩, ⟨some 39, .call (.c (.one (.fn 83 []))) 449 [.tmp 38], none⟩, ⟨some 40, .mv (.tmp 2), none⟩, ⟨some 41, .call (.c (.one (.fn 83 []))) 451 [.tmp 40], none⟩, ⟨some 42, .build [.nil, .nil] [(0, (1, .tmp 39)), (1, (1, .tmp 41))], none⟩, ⟨none, .store 2 (.tmp 6) (.tmp 42), none⟩]) .ret)))⟩
theorem k_least : cFn Try.prog Try.f60 = some c_least := by kernel_rfl
theorem least_ok (g : Gr) (S T : List Int) (hg : GrOk g) : CallOK Try.prog 60 [g.v, (false, [.sl g.nodes.length (markB S g.nodes.length)]), (false, [.sl g.edges.length (markB T g.edges.length)])]
    (.sv (Pa.v ⟨canon g.nodes.length (S ++ endsL g T g.edges.length), canon g.edges.length T⟩)) := by
  refine callOK_W (callS_W (by kernel_rfl) Try.func60 k_least (callable_of Try.func60 (by kernel_rfl)) (by simp [c_least]) ?_)
  have hn := hg.n
  have he := hg.e
  have hn8 : g.nodes.length ≤ 140737488355328 := by omega
  have hn9 : g.nodes.length ≤ 9223372036854775807 := by omega
  have fin : ∀ (v : AV) (R : St → Prop), True := fun _ _ => trivial
  by_cases h0 : g.nodes.length = 0
  · have hE : g.edges = [] := by
      cases hh : g.edges with
      | nil => rfl
      | cons e r =>
        have := hg.edges e (by rw [hh]; simp)
        omega
    have hN : g.nodes = [] := List.eq_nil_of_length_eq_zero h0
    have r0 := (marked_row 0 (S ++ endsL g T 0) (by decide)).ok
    have hloop : True := trivial
    simp [c_least, hE, hN, kApp, evApp, markB, trees_t]
    refine loopW_count 8 0 (fun _ (S' : St) => S'.fr 7 = .one .nil ∧ S'.fr 6 = .one (.ptr (1, 0) 0) ∧ S'.fr 2 = .one (.t (.sl 0 [])) ∧ S'.ob (1, 0) = some (bx 27 [.nil, .nil])) (by decide) ?_ ?_ ?_
    · simp
    · intro k S' hlt
      exact absurd hlt (by omega)
    · rintro S' hc ⟨f7, f6, f2, o1⟩
      have r1 := (marked_row 0 [] (by decide)).ok
      have ec : ∀ S, canon 0 S = [] := fun S => rfl
      rw [ec] at r1
      simp [f7, f6, f2, o1, hc]
      refine callS_tree r1 ?_ ?_ ?_
      · rfl
      · rfl
      simp [f7, f6, f2, o1, hc]
      refine callS_tree r1 ?_ ?_ ?_
      · rfl
      · rfl
      simp [f7, f6, f2, o1, hc, ec]
  · simp [c_least, kApp, evApp, trees_t, len_markB, h0, hn8, hn9]
    refine loopW_count 8 g.edges.length (fun k S' => S'.fr 3 = .one (.ptr (0, 0) 0) ∧ S'.fr 6 = .one (.ptr (1, 0) 0) ∧ S'.fr 2 = .one (.t (.sl g.edges.length (markB T g.edges.length))) ∧ S'.fr 7 = .one (.row (66, 0)) ∧
      S'.ob (0, 0) = some (bx 25 (g.v.2.map .t)) ∧ S'.ob (1, 0) = some (bx 27 [.nil, .nil]) ∧ S'.ob (66, 0) = some ⟨true, true, false, 1, g.nodes.length, 4, markC (S ++ endsL g T k) g.nodes.length⟩) (show _ ≤ _ by omega) ?_ ?_ ?_
    · simp [markC_eq, endsL, gather_zero]
    · rintro k S' hlt hw hc ⟨f3, f6, f2, f7, o0, o1, o66⟩
      have hlt3 : k * 3 < g.edges.length * 3 := by omega
      by_cases hm : (k : Int) ∈ T
      · obtain ⟨_, _, q1, q2, q3, q4⟩ := hg.edges _ (eth_mem hlt)
        obtain ⟨x, hx⟩ := Int.eq_ofNat_of_zero_le q1
        obtain ⟨y, hy⟩ := Int.eq_ofNat_of_zero_le q3
        have hx2 : x < g.nodes.length := by omega
        have hy2 : y < g.nodes.length := by omega
        have hx3 : x + 1 ≤ g.nodes.length := by omega
        have hy3 : y + 1 ≤ g.nodes.length := by omega
        have e : S ++ endsL g T (k + 1) = S ++ (endsL g T k ++ [(x : Int), (y : Int)]) := by rw [leastM, if_pos hm, hx, hy]; simp
        simp [dw0, dw1, dw2, dw3, f3, f6, f2, f7, o0, o1, o66, hc, hlt, hlt3, hw, len_markB, drop_markB hlt, hm, drop_edL hlt, hx, hy, hx2, hy2, hx3, hy3, len_mark, mark_set hx2, mark_set hy2, e]
        rfl
      · have e : endsL g T (k + 1) = endsL g T k := by simp [endsL, gather_succ, hm]
        simp [f3, f6, f2, f7, o0, o1, o66, hc, hlt, hw, len_markB, drop_markB hlt, hm, e]
    · rintro S' hc ⟨f3, f6, f2, f7, o0, o1, o66⟩
      have r1 := (marked_row g.nodes.length (S ++ endsL g T g.edges.length) (by simp only [tiny]; omega)).ok
      have r2 := (marked_row g.edges.length T (by simp only [tiny]; omega)).ok
      simp [f3, f6, f2, f7, o0, o1, o66, hc]
      refine callS_freeze [(66, 0)] (callS_tree r1 ?_ ?_ ?_)
      · simp [argTrees, argTree, frzAll, frzOne, o66, markC_eq, untree_t]
      · simp [frzAll, frzOne, o66, AV.still, V1.still]
      simp [frzAll, frzOne, f3, f6, f2, f7, o0, o1, o66, hc]
      refine callS_tree r2 ?_ ?_ ?_
      · rfl
      · rfl
      simp [f3, f6, f2, f7, o0, o1, o66, hc]
end Go.Proofs.Ythapbbpdcjmmfaa
