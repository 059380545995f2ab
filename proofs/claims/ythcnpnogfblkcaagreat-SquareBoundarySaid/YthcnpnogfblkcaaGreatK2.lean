/-
  Joined texts: steps of this claim, part 2. No condition beyond those that each statement names.
-/
import Derived.Test.YthcnpnogfblkcaaGreatK1
import Derived.Test.YthcnpnogfblkcaaGreatProg
import Derived.Sort.OwnSortedInts
import Derived.Lib.SlicesCompact
/- The small code's rules with their continuations as words, so that a proof steps through them one by one. -/
namespace Go.Proofs.YthcnpnogfblkcaaGreat.Abs
open Go.RowKit
set_option linter.unusedVariables false
set_option linter.unusedSimpArgs false

/-- A weakest precondition over the program, its open regions too. -/
def W (P : Program) (c : MCode) (Q : X → St → Prop) (S : St) : Prop := awp P (DR P) c Q S
def kSeq (P : Program) (b : MCode) (Q : X → St → Prop) : X → St → Prop := fun x S => match x with
  | .normal => W P b Q S
  | x => Q x S
def kBlk (id : Nat) (Q : X → St → Prop) : X → St → Prop := fun x S => match x with
  | .exit i => if i = id then Q .normal S else Q (.exit i) S
  | x => Q x S
def kCond (P : Program) (v : AV) (a b : MCode) (Q : X → St → Prop) (S : St) : Prop := ∃ t, v = .one (.t (.bool t)) ∧ (t = true → W P a Q S) ∧ (t = false → W P b Q S)
def loopW (P : Program) (b : MCode) (Q : X → St → Prop) (S : St) : Prop := loopP (awp P (DR P) b) Q S
def kOps (P : Program) (d : Option Nat) (r : List MOper) (S : St) (Q : St → Prop) : Eff → Prop := fun E => awpOps P r (S.set d E.v E.ob E.cnt) Q
def kRes (P : Program) (d : Option Nat) (r : List MOper) (S : St) (Q : St → Prop) : AV → (Nm → Option Ob) → (Nat → Nat) → Prop := fun v ob cnt => awpOps P r (S.set d v ob cnt) Q
def kGuard (P : Program) (v : AV) (b : Bool) (d : Option Nat) (op : MOp) (r : List MOper) (S : St) (Q : St → Prop) : Prop :=
  ∃ b', gval v = some b' ∧ (b' = some b → awpOps P (⟨d, op, none⟩ :: r) S Q) ∧ (b' ≠ some b → awpOps P r (S.set d .undef S.ob S.cnt) Q)
def kCall (P : Program) (f : AV) (args : List AV) (ob : Nm → Option Ob) (cnt : Nat → Nat) (K : AV → (Nm → Option Ob) → (Nat → Nat) → Prop) : Prop :=
  ∃ g caps, f = .one (.fn g caps) ∧ CallS P g (args ++ caps.map (fun n => .one (.ptr n 0))) ob cnt K
def kNil (neg : Bool) (x : AV) (S : St) (K : AV → (Nm → Option Ob) → (Nat → Nat) → Prop) : Prop := match x with
  | .one .nil => ∀ b : Bool, K (.one (.t (.bool b))) S.ob S.cnt
  | .one (.row _) => K (.one (.t (.bool neg))) S.ob S.cnt
  | .one (.t (.sl n cs)) => ∀ b : Bool, (b = true → cs = []) → K (.one (.t (.bool (if neg then !b else b)))) S.ob S.cnt
  | _ => False

section
variable {P : Program} {Q : X → St → Prop} {S : St}
theorem w_skip : W P .skip Q S = Q .normal S := Eq.trans rfl rfl
theorem w_region {ops : List MOper} : W P (.region ops) Q S = awpOps P ops S (Q .normal) := Eq.trans rfl rfl
theorem w_seq {a b : MCode} : W P (.seq a b) Q S = W P a (kSeq P b Q) S := Eq.trans rfl rfl
theorem w_cond {c : Arg} {a b : MCode} : W P (.cond c a b) Q S = kCond P (c.ev S) a b Q S := Eq.trans rfl rfl
theorem w_block {id : Nat} {b : MCode} : W P (.block id b) Q S = W P b (kBlk id Q) S := Eq.trans rfl rfl
theorem w_loop {b : MCode} : W P (.loop b) Q S = loopW P b Q S := Eq.trans rfl rfl
theorem w_exit {id : Nat} : W P (.exit id) Q S = Q (.exit id) S := Eq.trans rfl rfl
theorem w_ret : W P .ret Q S = Q .ret S := Eq.trans rfl rfl
theorem kSeq_n {b : MCode} : kSeq P b Q .normal S = W P b Q S := Eq.trans rfl rfl
theorem kSeq_e {b : MCode} {i : Nat} : kSeq P b Q (.exit i) S = Q (.exit i) S := Eq.trans rfl rfl
theorem kSeq_r {b : MCode} : kSeq P b Q .ret S = Q .ret S := Eq.trans rfl rfl
theorem kBlk_n {id : Nat} : kBlk id Q .normal S = Q .normal S := Eq.trans rfl rfl
theorem kBlk_e {id i : Nat} : kBlk id Q (.exit i) S = if i = id then Q .normal S else Q (.exit i) S := Eq.trans rfl rfl
theorem kBlk_r {id : Nat} : kBlk id Q .ret S = Q .ret S := Eq.trans rfl rfl
theorem kCond_t {a b : MCode} : kCond P (.one (.t (.bool true))) a b Q S = W P a Q S := by simp [kCond]
theorem kCond_f {a b : MCode} : kCond P (.one (.t (.bool false))) a b Q S = W P b Q S := by simp [kCond]
theorem kCond_d {p : Prop} [Decidable p] {a b : MCode} : kCond P (.one (.t (.bool (decide p)))) a b Q S = ((p → W P a Q S) ∧ (¬p → W P b Q S)) := by simp [kCond]
theorem kCond_g {t : Bool} {a b : MCode} : kCond P (.one (.t (.bool t))) a b Q S = ((t = true → W P a Q S) ∧ (t = false → W P b Q S)) := by simp [kCond]
theorem kCond_n {p : Prop} [Decidable p] {a b : MCode} : kCond P (.one (.t (.bool (!decide p)))) a b Q S = ((¬p → W P a Q S) ∧ (p → W P b Q S)) := by by_cases h : p <;> simp [kCond, h]
end

section
variable {P : Program} {Q : St → Prop} {S : St} {d : Option Nat} {r : List MOper}
theorem o_nil : awpOps P [] S Q = Q S := Eq.trans rfl rfl
theorem o_mv {x : Arg} : awpOps P (⟨d, .mv x, none⟩ :: r) S Q = awpOps P r (S.set d (x.ev S) S.ob S.cnt) Q := by simp [awpOps, awpOp, evOp, thereIs, St.val]
theorem o_pick {c a b : Arg} : awpOps P (⟨d, .pick c a b, none⟩ :: r) S Q = thereIs (evOp S (.pick c a b)) (kOps P d r S Q) := Eq.trans rfl rfl
theorem o_alloc {nm t : Nat} {z : List V1} : awpOps P (⟨d, .alloc nm t z, none⟩ :: r) S Q = thereIs (evOp S (.alloc nm t z)) (kOps P d r S Q) := Eq.trans rfl rfl
theorem o_box {nm t : Nat} {x : Arg} : awpOps P (⟨d, .box nm t x, none⟩ :: r) S Q = thereIs (evOp S (.box nm t x)) (kOps P d r S Q) := Eq.trans rfl rfl
theorem o_build {z : List V1} {p : List (Nat × Nat × Arg)} : awpOps P (⟨d, .build z p, none⟩ :: r) S Q = thereIs (evOp S (.build z p)) (kOps P d r S Q) := Eq.trans rfl rfl
theorem o_mkrow {nm t e l : Nat} {z : List V1} {p : List (Nat × Nat × Arg)} : awpOps P (⟨d, .mkrow nm t e l z p, none⟩ :: r) S Q = thereIs (evOp S (.mkrow nm t e l z p)) (kOps P d r S Q) := Eq.trans rfl rfl
theorem o_load {g : Bool} {s : Nat} {a : Arg} : awpOps P (⟨d, .load g s a, none⟩ :: r) S Q = thereIs (evOp S (.load g s a)) (kOps P d r S Q) := Eq.trans rfl rfl
theorem o_store {s : Nat} {a x : Arg} : awpOps P (⟨d, .store s a x, none⟩ :: r) S Q = thereIs (evOp S (.store s a x)) (kOps P d r S Q) := Eq.trans rfl rfl
theorem o_nilck {x : Arg} : awpOps P (⟨d, .nilck x, none⟩ :: r) S Q = thereIs (evOp S (.nilck x)) (kOps P d r S Q) := Eq.trans rfl rfl
theorem o_bin {o : BinOp} {x y : Arg} : awpOps P (⟨d, .bin o x y, none⟩ :: r) S Q = thereIs (evOp S (.bin o x y)) (kOps P d r S Q) := Eq.trans rfl rfl
theorem o_eqS {g : Bool} {n : Nat} {x y : Arg} : awpOps P (⟨d, .eqS g n x y, none⟩ :: r) S Q = thereIs (evOp S (.eqS g n x y)) (kOps P d r S Q) := Eq.trans rfl rfl
theorem o_not {x : Arg} : awpOps P (⟨d, .not x, none⟩ :: r) S Q = thereIs (evOp S (.not x)) (kOps P d r S Q) := Eq.trans rfl rfl
theorem o_conv {k : IntKind} {x : Arg} : awpOps P (⟨d, .conv k x, none⟩ :: r) S Q = thereIs (evOp S (.conv k x)) (kOps P d r S Q) := Eq.trans rfl rfl
theorem o_mkfn {f : FuncId} {c : List Arg} : awpOps P (⟨d, .mkfn f c, none⟩ :: r) S Q = thereIs (evOp S (.mkfn f c)) (kOps P d r S Q) := Eq.trans rfl rfl
theorem o_make {nm t e b : Nat} {z : List V1} {l c : Arg} : awpOps P (⟨d, .make nm t e b z l c, none⟩ :: r) S Q = thereIs (evOp S (.make nm t e b z l c)) (kOps P d r S Q) := Eq.trans rfl rfl
theorem o_fieldA {o : Nat} {x : Arg} : awpOps P (⟨d, .fieldA o x, none⟩ :: r) S Q = thereIs (evOp S (.fieldA o x)) (kOps P d r S Q) := Eq.trans rfl rfl
theorem o_idxA {e : Nat} {x i : Arg} : awpOps P (⟨d, .idxA e x i, none⟩ :: r) S Q = thereIs (evOp S (.idxA e x i)) (kOps P d r S Q) := Eq.trans rfl rfl
theorem o_idxArr {l e : Nat} {x i : Arg} : awpOps P (⟨d, .idxArr l e x i, none⟩ :: r) S Q = thereIs (evOp S (.idxArr l e x i)) (kOps P d r S Q) := Eq.trans rfl rfl
theorem o_extract {x : Arg} {i : Nat} : awpOps P (⟨d, .extract x i, none⟩ :: r) S Q = thereIs (evOp S (.extract x i)) (kOps P d r S Q) := Eq.trans rfl rfl
theorem o_len {x : Arg} : awpOps P (⟨d, .len x, none⟩ :: r) S Q = thereIs (evOp S (.len x)) (kOps P d r S Q) := Eq.trans rfl rfl
theorem o_append {nm t e b : Nat} {x y : Arg} : awpOps P (⟨d, .append nm t e b x y, none⟩ :: r) S Q = thereIs (evOp S (.append nm t e b x y)) (kOps P d r S Q) := Eq.trans rfl rfl
theorem o_minmax {g : Bool} {x y : Arg} : awpOps P (⟨d, .minmax g x y, none⟩ :: r) S Q = thereIs (evOp S (.minmax g x y)) (kOps P d r S Q) := Eq.trans rfl rfl
theorem o_isnil {g : Bool} {x : Arg} : awpOps P (⟨d, .isnil g x, none⟩ :: r) S Q = kNil g (x.ev S) S (kRes P d r S Q) := Eq.trans rfl rfl
theorem o_call {f : Arg} {nm : Nat} {args : List Arg} : awpOps P (⟨d, .call f nm args, none⟩ :: r) S Q = kCall P (f.ev S) (args.map (Arg.ev S)) S.ob S.cnt (kRes P d r S Q) := Eq.trans rfl rfl
theorem o_guard {op : MOp} {t : Nat} {b : Bool} : awpOps P (⟨d, op, some (t, b)⟩ :: r) S Q = kGuard P (S.fr t) b d op r S Q := Eq.trans rfl rfl
theorem kOps_app {E : Eff} : kOps P d r S Q E = awpOps P r (S.set d E.v E.ob E.cnt) Q := Eq.trans rfl rfl
theorem kRes_app {v : AV} {ob : Nm → Option Ob} {cnt : Nat → Nat} : kRes P d r S Q v ob cnt = awpOps P r (S.set d v ob cnt) Q := Eq.trans rfl rfl
theorem kGuard_tt {op : MOp} : kGuard P (.one (.t (.bool true))) true d op r S Q = awpOps P (⟨d, op, none⟩ :: r) S Q := by simp [kGuard, gval]
theorem kGuard_ff {op : MOp} : kGuard P (.one (.t (.bool false))) false d op r S Q = awpOps P (⟨d, op, none⟩ :: r) S Q := by simp [kGuard, gval]
theorem kGuard_tf {op : MOp} : kGuard P (.one (.t (.bool true))) false d op r S Q = awpOps P r (S.set d .undef S.ob S.cnt) Q := by simp [kGuard, gval]
theorem kGuard_ft {op : MOp} : kGuard P (.one (.t (.bool false))) true d op r S Q = awpOps P r (S.set d .undef S.ob S.cnt) Q := by simp [kGuard, gval]
theorem kGuard_u {op : MOp} {b : Bool} : kGuard P .undef b d op r S Q = awpOps P r (S.set d .undef S.ob S.cnt) Q := by simp [kGuard, gval]
theorem kCall_c {g : FuncId} {args : List AV} {ob : Nm → Option Ob} {cnt : Nat → Nat} {K : AV → (Nm → Option Ob) → (Nat → Nat) → Prop} : kCall P (.one (.fn g [])) args ob cnt K = CallS P g args ob cnt K := by
  refine propext ⟨?_, fun h => ⟨g, [], rfl, by simpa using h⟩⟩
  rintro ⟨g', caps, e, h⟩
  cases e
  simpa using h
theorem kCall_k {g : FuncId} {caps : List Nm} {args : List AV} {ob : Nm → Option Ob} {cnt : Nat → Nat} {K : AV → (Nm → Option Ob) → (Nat → Nat) → Prop} : kCall P (.one (.fn g caps)) args ob cnt K = CallS P g (args ++ caps.map (fun n => .one (.ptr n 0))) ob cnt K := by
  refine propext ⟨?_, fun h => ⟨g, caps, rfl, h⟩⟩
  rintro ⟨g', caps', e, h⟩
  cases e
  exact h
theorem kNil_r {g : Bool} {o : Nm} {K : AV → (Nm → Option Ob) → (Nat → Nat) → Prop} : kNil g (.one (.row o)) S K = K (.one (.t (.bool g))) S.ob S.cnt := Eq.trans rfl rfl
end

/-! ### Open regions -/
def chk (deps : List (List Nat)) (L : Log) : Bool := lowerAll 0 deps && indep (closAll [] deps) L
def dOps (P : Program) (d : Option Nat) (r : List MOper) (S : St) (L : Log) (R Wr : List SL) (Q : St → Log → Prop) : Eff → Prop := fun E => drawOps P r (S.set d E.v E.ob E.cnt) (L ++ [(R, dstL d ++ Wr)]) Q
def dDone (deps : List (List Nat)) (Q : X → St → Prop) : St → Log → Prop := fun S L => chk deps L = true ∧ Q .normal S
def dGuard (P : Program) (v : AV) (t : Nat) (b : Bool) (d : Option Nat) (op : MOp) (r : List MOper) (S : St) (L : Log) (Q : St → Log → Prop) : Prop :=
  ∃ b', gval v = some b' ∧ (b' = some b → dAwpOp P S op (dOps P d r S L ((0, t) :: opRd S op) (opWr S op) Q)) ∧ (b' ≠ some b → drawOps P r (S.set d .undef S.ob S.cnt) (L ++ [([(0, t)], dstL d)]) Q)
/-- A call in an open region. -/
def dCall (P : Program) (f : AV) (nm : Nat) (args : List AV) (S : St) (K : Eff → Prop) : Prop := (∃ g targs, f = .one (.fn g []) ∧ argTrees ⟨fun _ => .undef, S.ob, S.cnt⟩ args = some targs ∧
  ((∃ r, CallOK P g targs r ∧ (r.plain || args.all (AV.still ⟨fun _ => .undef, S.ob, S.cnt⟩)) = true ∧ K (S.val r.av)) ∨ ∃ typ esz n cs, CallRow P g targs typ esz n cs ∧ K (rowEff S nm typ esz n cs))) ∨
  ∃ g ups new v, f = .one (.fn g []) ∧ isMut f = true ∧ CallM P g nm args S.ob ups new v ∧ K (effM S nm ups new v)

section
variable {P : Program} {S : St}
theorem w_draw {deps : List (List Nat)} {ops : List MOper} {Q : X → St → Prop} : W P (.draw deps ops) Q S = drawOps P ops S [] (dDone deps Q) := Eq.trans rfl rfl
theorem dDone_app {deps : List (List Nat)} {Q : X → St → Prop} {L : Log} : dDone deps Q S L = (chk deps L = true ∧ Q .normal S) := Eq.trans rfl rfl
variable {Q : St → Log → Prop} {L : Log} {d : Option Nat} {r : List MOper}
theorem d_nil : drawOps P [] S L Q = Q S L := Eq.trans rfl rfl
theorem d_cons {op : MOp} : drawOps P (⟨d, op, none⟩ :: r) S L Q = dAwpOp P S op (dOps P d r S L (opRd S op) (opWr S op) Q) := Eq.trans rfl rfl
theorem d_guard {op : MOp} {t : Nat} {b : Bool} : drawOps P (⟨d, op, some (t, b)⟩ :: r) S L Q = dGuard P (S.fr t) t b d op r S L Q := Eq.trans rfl rfl
theorem dGuard_tt {op : MOp} {t : Nat} : dGuard P (.one (.t (.bool true))) t true d op r S L Q = dAwpOp P S op (dOps P d r S L ((0, t) :: opRd S op) (opWr S op) Q) := by simp [dGuard, gval]
theorem dGuard_ff {op : MOp} {t : Nat} : dGuard P (.one (.t (.bool false))) t false d op r S L Q = dAwpOp P S op (dOps P d r S L ((0, t) :: opRd S op) (opWr S op) Q) := by simp [dGuard, gval]
theorem dGuard_tf {op : MOp} {t : Nat} : dGuard P (.one (.t (.bool true))) t false d op r S L Q = drawOps P r (S.set d .undef S.ob S.cnt) (L ++ [([(0, t)], dstL d)]) Q := by simp [dGuard, gval]
theorem dGuard_ft {op : MOp} {t : Nat} : dGuard P (.one (.t (.bool false))) t true d op r S L Q = drawOps P r (S.set d .undef S.ob S.cnt) (L ++ [([(0, t)], dstL d)]) Q := by simp [dGuard, gval]
theorem dGuard_u {op : MOp} {t : Nat} {b : Bool} : dGuard P .undef t b d op r S L Q = drawOps P r (S.set d .undef S.ob S.cnt) (L ++ [([(0, t)], dstL d)]) Q := by simp [dGuard, gval]
theorem dOps_app {R Wr : List SL} {E : Eff} : dOps P d r S L R Wr Q E = drawOps P r (S.set d E.v E.ob E.cnt) (L ++ [(R, dstL d ++ Wr)]) Q := Eq.trans rfl rfl
variable {K : Eff → Prop}
theorem d_mv {x : Arg} : dAwpOp P S (.mv x) K = thereIs (evOp S (.mv x)) K := Eq.trans rfl rfl
theorem d_pick {c a b : Arg} : dAwpOp P S (.pick c a b) K = thereIs (evOp S (.pick c a b)) K := Eq.trans rfl rfl
theorem d_alloc {nm t : Nat} {z : List V1} : dAwpOp P S (.alloc nm t z) K = thereIs (evOp S (.alloc nm t z)) K := Eq.trans rfl rfl
theorem d_box {nm t : Nat} {x : Arg} : dAwpOp P S (.box nm t x) K = thereIs (evOp S (.box nm t x)) K := Eq.trans rfl rfl
theorem d_build {z : List V1} {p : List (Nat × Nat × Arg)} : dAwpOp P S (.build z p) K = thereIs (evOp S (.build z p)) K := Eq.trans rfl rfl
theorem d_mkrow {nm t e l : Nat} {z : List V1} {p : List (Nat × Nat × Arg)} : dAwpOp P S (.mkrow nm t e l z p) K = thereIs (evOp S (.mkrow nm t e l z p)) K := Eq.trans rfl rfl
theorem d_load {g : Bool} {s : Nat} {a : Arg} : dAwpOp P S (.load g s a) K = thereIs (evOp S (.load g s a)) K := Eq.trans rfl rfl
theorem d_store {s : Nat} {a x : Arg} : dAwpOp P S (.store s a x) K = thereIs (evOp S (.store s a x)) K := Eq.trans rfl rfl
theorem d_bin {o : BinOp} {x y : Arg} : dAwpOp P S (.bin o x y) K = thereIs (evOp S (.bin o x y)) K := Eq.trans rfl rfl
theorem d_eqS {g : Bool} {n : Nat} {x y : Arg} : dAwpOp P S (.eqS g n x y) K = thereIs (evOp S (.eqS g n x y)) K := Eq.trans rfl rfl
theorem d_not {x : Arg} : dAwpOp P S (.not x) K = thereIs (evOp S (.not x)) K := Eq.trans rfl rfl
theorem d_conv {k : IntKind} {x : Arg} : dAwpOp P S (.conv k x) K = thereIs (evOp S (.conv k x)) K := Eq.trans rfl rfl
theorem d_make {nm t e b : Nat} {z : List V1} {l c : Arg} : dAwpOp P S (.make nm t e b z l c) K = thereIs (evOp S (.make nm t e b z l c)) K := Eq.trans rfl rfl
theorem d_fieldA {o : Nat} {x : Arg} : dAwpOp P S (.fieldA o x) K = thereIs (evOp S (.fieldA o x)) K := Eq.trans rfl rfl
theorem d_idxA {e : Nat} {x i : Arg} : dAwpOp P S (.idxA e x i) K = thereIs (evOp S (.idxA e x i)) K := Eq.trans rfl rfl
theorem d_idxArr {l e : Nat} {x i : Arg} : dAwpOp P S (.idxArr l e x i) K = thereIs (evOp S (.idxArr l e x i)) K := Eq.trans rfl rfl
theorem d_extract {x : Arg} {i : Nat} : dAwpOp P S (.extract x i) K = thereIs (evOp S (.extract x i)) K := Eq.trans rfl rfl
theorem d_len {x : Arg} : dAwpOp P S (.len x) K = thereIs (evOp S (.len x)) K := Eq.trans rfl rfl
theorem d_append {nm t e b : Nat} {x y : Arg} : dAwpOp P S (.append nm t e b x y) K = thereIs (evOp S (.append nm t e b x y)) K := Eq.trans rfl rfl
theorem d_minmax {g : Bool} {x y : Arg} : dAwpOp P S (.minmax g x y) K = thereIs (evOp S (.minmax g x y)) K := Eq.trans rfl rfl
theorem d_call {f : Arg} {nm : Nat} {args : List Arg} : dAwpOp P S (.call f nm args) K = dCall P (f.ev S) nm (args.map (Arg.ev S)) S K := Eq.trans rfl rfl

theorem dCall_ok {g : FuncId} {nm : Nat} {args : List AV} {targs : List TV} {r : TR} (h : CallOK P g targs r) (ht : argTrees ⟨fun _ => .undef, S.ob, S.cnt⟩ args = some targs) (hs : (r.plain || args.all (AV.still ⟨fun _ => .undef, S.ob, S.cnt⟩)) = true) (hk : K (S.val r.av)) :
    dCall P (.one (.fn g [])) nm args S K := .inl ⟨g, targs, rfl, ht, .inl ⟨r, h, hs, hk⟩⟩
theorem dCall_row {g : FuncId} {nm : Nat} {args : List AV} {targs : List TV} {typ esz n : Nat} {cs : List C} (h : CallRow P g targs typ esz n cs) (ht : argTrees ⟨fun _ => .undef, S.ob, S.cnt⟩ args = some targs) (hk : K (rowEff S nm typ esz n cs)) :
    dCall P (.one (.fn g [])) nm args S K := .inl ⟨g, targs, rfl, ht, .inr ⟨typ, esz, n, cs, h, hk⟩⟩
theorem dCall_mut {g : FuncId} {nm : Nat} {args : List AV} {ups : List (Nm × Ob)} {new : Option Ob} {v : Nm → AV} (hm : decide (g = 29) = true) (h : CallM P g nm args S.ob ups new v) (hk : K (effM S nm ups new v)) :
    dCall P (.one (.fn g [])) nm args S K := .inr ⟨g, ups, new, v, rfl, by rw [isMut_fn]; exact hm, h, hk⟩
end

theorem upd_app {α β : Type} [DecidableEq α] (f : α → β) (a x : α) (b : β) : upd f a b x = if x = a then b else f x := Eq.trans rfl rfl

/-- A function's end: what comes back. -/
def kRet (rs : List MRes) (K : AV → (Nm → Option Ob) → (Nat → Nat) → Prop) : X → St → Prop := fun x S => match x with
  | .exit _ => False
  | _ => ∃ r, retOf S rs = some r ∧ K r S.ob S.cnt

section
variable {P : Program} {S : St} {rs : List MRes} {K : AV → (Nm → Option Ob) → (Nat → Nat) → Prop}
def kBack (x : Option AV) (S : St) (K : AV → (Nm → Option Ob) → (Nat → Nat) → Prop) : Prop := ∃ r, x = some r ∧ K r S.ob S.cnt
theorem kBack_some {r : AV} : kBack (some r) S K = K r S.ob S.cnt := by simp [kBack]
theorem kRet_r : kRet rs K .ret S = kBack (retOf S rs) S K := Eq.trans rfl rfl
theorem kRet_n : kRet rs K .normal S = kBack (retOf S rs) S K := Eq.trans rfl rfl

theorem callS_W (hm : P.follows .mixedOrders = true) {f : FuncId} {fn : Func} {mf : MFunc} {args : List AV} {ob : Nm → Option Ob} {cnt : Nat → Nat} (hfn : P.funcs[f]? = some fn) (hc : cFn P fn = some mf) (hcb : callable P f = true) (hn : args.length ≤ mf.n)
    (h : W P mf.body (kRet mf.res K) ⟨frameOf args, ob, cnt⟩) : CallS P f args ob cnt K := by
  refine callS_of (dr_sound hm) hfn hc hcb hn (awp_mono h fun x S hx => ?_)
  cases x with
  | exit i => exact hx
  | normal => exact hx
  | ret => exact hx
end

def isTree (r : TR) : AV → (Nm → Option Ob) → (Nat → Nat) → Prop := fun x ob cnt => treeOf ⟨fun _ => .undef, ob, cnt⟩ x = some r
theorem isTree_app {r : TR} {x : AV} {ob : Nm → Option Ob} {cnt : Nat → Nat} : isTree r x ob cnt = (treeOf ⟨fun _ => .undef, ob, cnt⟩ x = some r) := Eq.trans rfl rfl
theorem callOK_W {P : Program} {f : FuncId} {args : List TV} {r : TR} (h : CallS P f (args.map TV.av) noOb noCnt (isTree r)) : CallOK P f args r := callOK_of_S h
theorem beqI {a b : Int} : (a == b) = decide (a = b) := by by_cases h : a = b <;> simp [h]
theorem bneI {a b : Int} : (a != b) = !decide (a = b) := by by_cases h : a = b <;> simp [h]
theorem natNeg {x : Nat} : ((x : Int) < 0) = False := by simp
theorem noOb_app (o : Nm) : noOb o = none := Eq.trans rfl rfl
theorem noCnt_app (n : Nat) : noCnt n = 0 := Eq.trans rfl rfl

def kLoop (c k : Nat) (J : Nat → St → Prop) (Q : X → St → Prop) : X → St → Prop := fun x S => match x with
  | .normal => S.fr c = .one (.t (.int .i64 (k : Int))) ∧ J k S
  | x => Q x S
def kDone (Q : X → St → Prop) : X → St → Prop := fun x S => match x with
  | .normal => False
  | x => Q x S
theorem kLoop_n {c k : Nat} {J : Nat → St → Prop} {Q : X → St → Prop} {S : St} : kLoop c k J Q .normal S = (S.fr c = .one (.t (.int .i64 (k : Int))) ∧ J k S) := Eq.trans rfl rfl
theorem kLoop_e {c k i : Nat} {J : Nat → St → Prop} {Q : X → St → Prop} {S : St} : kLoop c k J Q (.exit i) S = Q (.exit i) S := Eq.trans rfl rfl
theorem kLoop_r {c k : Nat} {J : Nat → St → Prop} {Q : X → St → Prop} {S : St} : kLoop c k J Q .ret S = Q .ret S := Eq.trans rfl rfl
theorem kDone_e {i : Nat} {Q : X → St → Prop} {S : St} : kDone Q (.exit i) S = Q (.exit i) S := Eq.trans rfl rfl
theorem kDone_r {Q : X → St → Prop} {S : St} : kDone Q .ret S = Q .ret S := Eq.trans rfl rfl
theorem kDone_n {Q : X → St → Prop} {S : St} : kDone Q .normal S = False := Eq.trans rfl rfl

/-- A loop that counts up to n in a variable. -/
theorem loopW_count {P : Program} {b : MCode} {Q : X → St → Prop} {S : St} (c n : Nat) (J : Nat → St → Prop) (hn : n ≤ 9000000000000000000)
    (h0 : S.fr c = .one (.t (.int .i64 0)) ∧ J 0 S)
    (h1 : ∀ (k : Nat) (S : St), k < n → IntKind.i64.wrap ((k : Int) + 1) = ((k + 1 : Nat) : Int) → S.fr c = .one (.t (.int .i64 k)) → J k S → W P b (kLoop c (k + 1) J Q) S)
    (h2 : ∀ (S : St), S.fr c = .one (.t (.int .i64 n)) → J n S → W P b (kDone Q) S) : loopW P b Q S :=
  loop_count c n J hn h0 (fun k S a b c d => awp_mono (h1 k S a b c d) fun x S hx => by
    cases x with
    | normal => exact hx
    | exit i => exact hx
    | ret => exact hx) (fun S a b => awp_mono (h2 S a b) fun x S hx => by
    cases x with
    | normal => exact hx
    | exit i => exact hx
    | ret => exact hx)

def kInv (I : St → Prop) (μ : St → Nat) (n : Nat) (Q : X → St → Prop) : X → St → Prop := fun x S => match x with
  | .normal => I S ∧ μ S < n
  | x => Q x S
theorem kInv_n {I : St → Prop} {μ : St → Nat} {n : Nat} {Q : X → St → Prop} {S : St} : kInv I μ n Q .normal S = (I S ∧ μ S < n) := Eq.trans rfl rfl
theorem kInv_e {I : St → Prop} {μ : St → Nat} {n i : Nat} {Q : X → St → Prop} {S : St} : kInv I μ n Q (.exit i) S = Q (.exit i) S := Eq.trans rfl rfl
theorem kInv_r {I : St → Prop} {μ : St → Nat} {n : Nat} {Q : X → St → Prop} {S : St} : kInv I μ n Q .ret S = Q .ret S := Eq.trans rfl rfl
theorem loopW_intro {P : Program} {b : MCode} {Q : X → St → Prop} {S : St} (I : St → Prop) (μ : St → Nat) (h0 : I S) (h : ∀ S, I S → W P b (kInv I μ (μ S) Q) S) : loopW P b Q S :=
  loop_intro I μ h0 fun S hS => awp_mono (h S hS) fun x S hx => by
    cases x with
    | normal => exact hx
    | exit i => exact hx
    | ret => exact hx

/-- The first of f 0, .. f (n - 1) that is not 0. -/
def fe (f : Nat → Int) : Nat → Int
  | 0 => 0
  | n + 1 => if fe f n = 0 then f n else fe f n
theorem fe_zero {f : Nat → Int} : ∀ {n : Nat}, (∀ j, j < n → f j = 0) → fe f n = 0
  | 0, _ => rfl
  | n + 1, h => by
    have ih := fe_zero (n := n) fun j hj => h j (by omega)
    simp [fe, ih, h n (by omega)]
theorem fe_at {f : Nat → Int} {k : Nat} : ∀ {n : Nat}, k < n → (∀ j, j < k → f j = 0) → f k ≠ 0 → fe f n = f k
  | 0, h, _, _ => absurd h (by omega)
  | n + 1, h, h0, h1 => by
    by_cases e : k = n
    · subst e
      simp [fe, fe_zero h0]
    · have ih := fe_at (n := n) (by omega) h0 h1
      simp [fe, ih, h1]
theorem fe_eq {f : Nat → Int} : ∀ {n : Nat}, fe f n = 0 → ∀ j, j < n → f j = 0
  | 0, _, j, hj => absurd hj (by omega)
  | n + 1, h, j, hj => by
    by_cases e : fe f n = 0
    · simp [fe, e] at h
      by_cases e' : j = n
      · rw [e']; exact h
      · exact fe_eq e j (by omega)
    · simp [fe, e] at h
end Go.Proofs.YthcnpnogfblkcaaGreat.Abs

/- Rows that grow; lists that loops collect; loops that count from a number on. -/
namespace Go.Proofs.YthcnpnogfblkcaaGreat.Abs
open Go.RowKit
set_option linter.unusedVariables false
set_option linter.unusedSimpArgs false
set_option linter.defProp false

/-! ### Appending -/
def evApp (S : St) (nm typ esz bytes : Nat) (x : AV) (y : Option (Nat × List V1)) : Option Eff := match y with
  | some (k, news) => match trees news with
    | some ts => match x with
      | .one .nil => if k * bytes ≤ 140737488355328 ∧ ts.length = k * esz ∧ k ≤ 9223372036854775807 then
          (if k = 0 then some (S.val (.one .nil)) else some (S.new nm ⟨true, true, false, esz, k, typ, ts⟩ (.one (.row (nm, S.cnt nm)))))
        else none
      | .one (.row o) => match S.live o with
        | some b => if b.isRow = true ∧ b.frz = false ∧ b.esz = esz ∧ b.typ = typ ∧ (b.n + k) * bytes ≤ 140737488355328 ∧ ts.length = k * esz ∧ b.n + k ≤ 9223372036854775807 then
            some ⟨.one (.row (nm, S.cnt nm)), upd (upd S.ob o (some { b with live := false })) (nm, S.cnt nm) (some ⟨true, true, false, esz, b.n + k, typ, b.cells ++ ts⟩), upd S.cnt nm (S.cnt nm + 1)⟩
          else none
        | none => none
      | _ => none
    | none => none
  | none => none

theorem evApp_eq {S : St} {nm t e b : Nat} {x y : Arg} : evOp S (.append nm t e b x y) = evApp S nm t e b (x.ev S) (sliceOf S (y.ev S)) := Eq.trans rfl rfl

def kApp (nm typ esz bytes : Nat) (x : AV) (y : Option (Nat × List V1)) (S : St) (K : Eff → Prop) : Prop := thereIs (evApp S nm typ esz bytes x y) K
theorem o_app {P : Program} {Q : St → Prop} {S : St} {d : Option Nat} {r : List MOper} {nm t e b : Nat} {x y : Arg} :
    awpOps P (⟨d, .append nm t e b x y, none⟩ :: r) S Q = kApp nm t e b (x.ev S) (sliceOf S (y.ev S)) S (kOps P d r S Q) := by
  rw [o_append, evApp_eq]; exact Eq.trans rfl rfl
theorem d_app {P : Program} {S : St} {K : Eff → Prop} {nm t e b : Nat} {x y : Arg} : dAwpOp P S (.append nm t e b x y) K = kApp nm t e b (x.ev S) (sliceOf S (y.ev S)) S K := by
  rw [d_append, evApp_eq]; exact Eq.trans rfl rfl

/-- A list that appends have built: nil, or a row of its own. -/
def outR (nm typ esz n : Nat) (cs : List C) (ob : Nm → Option Ob) (v : AV) : Prop :=
  (n = 0 ∧ cs = [] ∧ v = .one .nil) ∨ (0 < n ∧ ∃ g, v = .one (.row (nm, g)) ∧ ob (nm, g) = some ⟨true, true, false, esz, n, typ, cs.map .t⟩)

theorem outR_nil {nm typ esz : Nat} {ob : Nm → Option Ob} : outR nm typ esz 0 [] ob (.one .nil) := .inl ⟨rfl, rfl, rfl⟩

theorem outR.rowIs {nm typ esz n : Nat} {cs : List C} {ob : Nm → Option Ob} {v : AV} (h : outR nm typ esz n cs ob v) : Abs.rowIs typ esz n cs ob v := by
  rcases h with ⟨h1, _, h2⟩ | ⟨h1, g, h2, h3⟩
  · exact .inl ⟨h1, h2⟩
  · exact .inr ⟨h1, _, _, h2, h3, rfl, rfl, rfl, rfl, rfl, rfl⟩

theorem trees_t (ts : List C) : trees (ts.map .t) = some (ts.map .t) := by
  induction ts with
  | nil => rfl
  | cons c r ih => simp [trees, V1.tree, ih]

theorem kApp_grow {nm typ esz bytes n k : Nat} {cs ts : List C} {v : AV} {S : St} {K : Eff → Prop} {news : List V1} (hnews : news = ts.map .t) (h : outR nm typ esz n cs S.ob v) (hk : 0 < k) (hl : ts.length = k * esz) (hb : (n + k) * bytes ≤ 140737488355328) (hn : n + k ≤ 9000000000000000000)
    (hK : ∀ E : Eff, outR nm typ esz (n + k) (cs ++ ts) E.ob E.v → (∀ a g, a ≠ nm → E.ob (a, g) = S.ob (a, g)) → (∀ a, a ≠ nm → E.cnt a = S.cnt a) → K E) : kApp nm typ esz bytes v (some (k, news)) S K := by
  subst hnews
  unfold kApp evApp
  simp only [trees_t, List.length_map]
  rcases h with ⟨rfl, rfl, rfl⟩ | ⟨h1, g, rfl, h3⟩
  · simp only
    rw [if_pos ⟨by simpa using hb, hl, by omega⟩, if_neg (by omega)]
    refine ⟨_, rfl, hK _ (.inr ⟨by omega, S.cnt nm, rfl, ?_⟩) (fun a g ha => ?_) (fun a ha => ?_)⟩
    · simp [St.new, upd_same]
    · simp only [St.new]
      exact upd_ne _ _ (fun e => ha (Prod.mk.inj e).1)
    · simp only [St.new]
      exact upd_ne _ _ ha
  · simp only [St.live, h3, if_true]
    rw [if_pos ⟨trivial, trivial, trivial, trivial, hb, hl, by omega⟩]
    refine ⟨_, rfl, hK _ (.inr ⟨by omega, S.cnt nm, rfl, ?_⟩) (fun a g' ha => ?_) (fun a ha => ?_)⟩
    · simp [upd_same]
    · show upd (upd S.ob (nm, g) _) (nm, S.cnt nm) _ (a, g') = _
      rw [upd_ne _ _ (fun e => ha (Prod.mk.inj e).1), upd_ne _ _ (fun e => ha (Prod.mk.inj e).1)]
    · exact upd_ne _ _ ha

theorem outR.keep {nm typ esz n : Nat} {cs : List C} {ob ob' : Nm → Option Ob} {v : AV} (h : outR nm typ esz n cs ob v) (ho : ∀ g, ob' (nm, g) = ob (nm, g)) : outR nm typ esz n cs ob' v := by
  rcases h with h | ⟨h1, g, h2, h3⟩
  · exact .inl h
  · exact .inr ⟨h1, g, h2, by rw [ho]; exact h3⟩

theorem outR.one {nm typ esz n : Nat} {cs : List C} {ob : Nm → Option Ob} {v : AV} (h : outR nm typ esz n cs ob v) : ∃ u, v = .one u := by
  rcases h with ⟨_, _, h⟩ | ⟨_, g, h, _⟩
  · exact ⟨_, h⟩
  · exact ⟨_, h⟩

/-! ### What loops collect -/
def collect {α : Type} (f : Nat → Option α) (k : Nat) : List α := (List.range k).filterMap f
theorem collect_zero {α : Type} {f : Nat → Option α} : collect f 0 = [] := rfl
theorem collect_some {α : Type} {f : Nat → Option α} {k : Nat} {x : α} (h : f k = some x) : collect f (k + 1) = collect f k ++ [x] := by simp [collect, List.range_succ, h]
theorem collect_none {α : Type} {f : Nat → Option α} {k : Nat} (h : f k = none) : collect f (k + 1) = collect f k := by simp [collect, List.range_succ, h]
theorem collect_len {α : Type} {f : Nat → Option α} {k : Nat} : (collect f k).length ≤ k := by
  have := List.length_filterMap_le f (List.range k)
  simpa [collect] using this
theorem collect_nil {α : Type} {f : Nat → Option α} {k : Nat} (h : ∀ j, j < k → f j = none) : collect f k = [] := by
  induction k with
  | zero => rfl
  | succ k ih => rw [collect_none (h k (by omega)), ih fun j hj => h j (by omega)]
theorem mem_collect {α : Type} {f : Nat → Option α} {k : Nat} {x : α} : x ∈ collect f k ↔ ∃ j, j < k ∧ f j = some x := by simp [collect]

def gather {α : Type} (f : Nat → List α) (k : Nat) : List α := (List.range k).flatMap f
theorem gather_zero {α : Type} {f : Nat → List α} : gather f 0 = [] := rfl
theorem gather_succ {α : Type} {f : Nat → List α} {k : Nat} : gather f (k + 1) = gather f k ++ f k := by simp [gather, List.range_succ]
theorem gather_len {α : Type} {f : Nat → List α} {m : Nat} (h : ∀ j, (f j).length ≤ m) : ∀ k, (gather f k).length ≤ k * m
  | 0 => by simp [gather]
  | k + 1 => by
    rw [gather_succ, List.length_append, Nat.add_mul]
    have := gather_len h k
    have := h k
    omega
theorem mem_gather {α : Type} {f : Nat → List α} {k : Nat} {x : α} : x ∈ gather f k ↔ ∃ j, j < k ∧ x ∈ f j := by simp [gather]

/-- A loop that counts from s up to n in a variable. -/
theorem loopW_from {P : Program} {b : MCode} {Q : X → St → Prop} {S : St} (c s n : Nat) (J : Nat → St → Prop) (hs : s ≤ n) (hn : n ≤ 9000000000000000000)
    (h0 : S.fr c = .one (.t (.int .i64 (s : Int))) ∧ J s S)
    (h1 : ∀ (k : Nat) (S : St), s ≤ k → k < n → IntKind.i64.wrap ((k : Int) + 1) = ((k + 1 : Nat) : Int) → S.fr c = .one (.t (.int .i64 k)) → J k S → W P b (kLoop c (k + 1) J Q) S)
    (h2 : ∀ (S : St), S.fr c = .one (.t (.int .i64 n)) → J n S → W P b (kDone Q) S) : loopW P b Q S := by
  refine loopW_intro (fun S => ∃ k : Nat, s ≤ k ∧ k ≤ n ∧ S.fr c = .one (.t (.int .i64 k)) ∧ J k S) (fun S => match S.fr c with | .one (.t (.int _ k)) => n - k.toNat | _ => 0) ⟨s, by omega, hs, h0.1, h0.2⟩ ?_
  rintro S ⟨k, hsk, hk, hc, hj⟩
  by_cases hlt : k < n
  · refine awp_mono (h1 k S hsk hlt (by rw [wrap64_id] <;> omega) hc hj) fun x S' hx => ?_
    cases x with
    | normal =>
      refine ⟨⟨k + 1, by omega, by omega, hx.1, hx.2⟩, ?_⟩
      have hx := hx.1
      simp only [hx, hc]
      omega
    | exit i => exact hx
    | ret => exact hx
  · have : k = n := by omega
    subst this
    refine awp_mono (h2 S hc hj) fun x S' hx => ?_
    cases x with
    | normal => exact hx.elim
    | exit i => exact hx
    | ret => exact hx

def isRowV (typ esz n : Nat) (cs : List C) : AV → (Nm → Option Ob) → (Nat → Nat) → Prop := fun x ob _ => rowIs typ esz n cs ob x
theorem isRowV_app {typ esz n : Nat} {cs : List C} {x : AV} {ob : Nm → Option Ob} {cnt : Nat → Nat} : isRowV typ esz n cs x ob cnt = rowIs typ esz n cs ob x := rfl
theorem callRow_W {P : Program} {f : FuncId} {args : List TV} {typ esz n : Nat} {cs : List C} (hpl : cs.all C.plain = true) (hl : cs.length = n * esz) (he : 0 < esz) (h : CallS P f (args.map TV.av) noOb noCnt (isRowV typ esz n cs)) : CallRow P f args typ esz n cs := callRow_of_S hpl hl he h

/-- A row of numbers comes back. -/
def RowI (P : Program) (f : FuncId) (args : List TV) (typ : Nat) (l : List Int) : Prop := CallRow P f args typ 1 l.length (l.map (.int .i64))
theorem RowI.ok {P : Program} {f : FuncId} {args : List TV} {typ : Nat} {l : List Int} (h : RowI P f args typ l) : CallOK P f args (.sv (false, [ints l])) := callOK_of_row h
theorem plain_ints (l : List Int) : (l.map (C.int .i64)).all C.plain = true := by simp [C.plain]
theorem plain_prL (l : List (Int × Int)) : (prL l).all C.plain = true := by
  simp only [prL, List.all_eq_true, List.mem_flatMap]
  rintro c ⟨x, _, hc⟩
  simp [prC] at hc
  rcases hc with rfl | rfl <;> rfl
/-! ### The rules in bundles -/
def rn0 := And.intro @w_skip (And.intro @w_region (And.intro @w_seq (And.intro @w_cond (And.intro @w_block (And.intro @w_loop (And.intro @w_exit (And.intro @w_ret (And.intro @kSeq_n (@kSeq_e)))))))))
def rn1 := And.intro @kSeq_r (And.intro @kBlk_n (And.intro @kBlk_e (And.intro @kBlk_r (And.intro @kCond_t (And.intro @kCond_f (And.intro @kCond_d (And.intro @kCond_n (And.intro @o_nil (@o_mv)))))))))
def rn2 := And.intro @o_pick (And.intro @o_alloc (And.intro @o_box (And.intro @o_build (And.intro @o_mkrow (And.intro @o_load (And.intro @o_store (And.intro @o_nilck (And.intro @o_bin (@o_eqS)))))))))
def rn3 := And.intro @o_not (And.intro @o_conv (And.intro @o_mkfn (And.intro @o_make (And.intro @o_fieldA (And.intro @o_idxA (And.intro @o_idxArr (And.intro @o_extract (And.intro @o_len (@o_app)))))))))
def rn4 := And.intro @o_minmax (And.intro @o_isnil (And.intro @o_call (And.intro @o_guard (And.intro @kOps_app (And.intro @kRes_app (And.intro @kGuard_tt (And.intro @kGuard_ff (And.intro @kGuard_tf (@kGuard_ft)))))))))
def rn5 := And.intro @kGuard_u (And.intro @kCall_c (And.intro @kNil_r (And.intro @kRet_r (And.intro @kRet_n (And.intro @kBack_some (And.intro @isTree_app (And.intro @isRowV_app (And.intro @kLoop_n (@kLoop_e)))))))))
def rn6 := And.intro @kLoop_r (And.intro @kDone_e (And.intro @kDone_r (And.intro @kInv_n (And.intro @kInv_e (And.intro @kInv_r (And.intro @thereIs_some (And.intro @thereIs_none (And.intro @upd_app (@noOb_app)))))))))
def rn7 := And.intro @noCnt_app (And.intro @beqI (And.intro @bneI (And.intro @natNeg (And.intro @len_edL (@len_prL)))))
def dw0 := And.intro @w_draw (And.intro @d_nil (And.intro @d_cons (And.intro @d_guard (And.intro @dGuard_tt (And.intro @dGuard_ff (And.intro @dGuard_tf (And.intro @dGuard_ft (And.intro @dGuard_u (@dOps_app)))))))))
def dw1 := And.intro @dDone_app (And.intro @d_mv (And.intro @d_pick (And.intro @d_alloc (And.intro @d_box (And.intro @d_build (And.intro @d_mkrow (And.intro @d_load (And.intro @d_store (@d_bin)))))))))
def dw2 := And.intro @d_eqS (And.intro @d_not (And.intro @d_conv (And.intro @d_make (And.intro @d_fieldA (And.intro @d_idxA (And.intro @d_idxArr (And.intro @d_extract (And.intro @d_len (@d_app)))))))))
def dw3 := And.intro @d_minmax (@d_call)
end Go.Proofs.YthcnpnogfblkcaaGreat.Abs

/- Contracts of small functions over lists. -/
namespace Go.Proofs.YthcnpnogfblkcaaGreat
open Abs
set_option linter.unusedSimpArgs false
set_option linter.unusedVariables false
attribute [local simp] rn0 rn1 rn2 rn3 rn4 rn5 rn6 rn7 evOp nests Arg.ev St.val St.set St.new sliceOf binInt2 binInt AV.cells rdAt St.live retOf resOf resAll treeOf treeCell treeCells treeTups untree frameOf TV.av TR.av ints edgs prs fillV splice intsOf trees V1.tree bx Gr.v Pa.v

/-- How long a list may be. -/
abbrev small (n : Nat) : Prop := n ≤ 9000000000000000000

def idx (l : List Int) (n : Int) : Int := if n ∈ l then (l.idxOf n : Nat) else -1

theorem idx_at {l : List Int} {n : Int} {k : Nat} (hk : k < l.length) (hn : n ∉ l.take k) (he : nth l k = n) : idx l n = k := by
  have hm : n ∈ l := he ▸ nth_mem hk
  simp only [idx, if_pos hm]
  rw [nth_eq hk] at he
  have h : l.idxOf n = k := by
    have e : l = l.take k ++ l[k] :: l.drop (k + 1) := by simp
    rw [e, List.idxOf_append, if_neg hn, he]
    simp [List.length_take]
    omega
  rw [h]

theorem take_nth {l : List Int} {k : Nat} {n : Int} (h : k < l.length) (hn : n ∉ l.take k) (hk : nth l k ≠ n) : n ∉ l.take (k + 1) := take_mem h hn (by rw [nth_eq h] at hk; exact hk)

def c_index : MFunc := ⟨19, [.tmp 4], .seq (.region [⟨some 4, .mv (.c (.one (.t (.int .i64 0)))), none⟩]) (.seq (.seq (.region [⟨some 6, .mv (.tmp 0), none⟩, ⟨some 7, .len (.tmp 6), none⟩, ⟨some 8, .mv (.c (.one (.t (.int .i64 0)))), none⟩]) (.block 0 (.loop (.seq (.region [⟨some 9, .bin .lss (.tmp 8) (.tmp 7), none⟩]) (.seq (.cond (.tmp 9) .skip (.exit 0)) (.seq (.block 1 (.seq (.region [⟨some 10, .mv (.tmp 8), none⟩, ⟨some 5, .mv (.tmp 10), none⟩]) (.seq (.region [⟨some 11, .mv (.tmp 1), none⟩, ⟨some 12, .mv (.tmp 0), none⟩, ⟨some 13, .mv (.tmp 5), none⟩, ⟨some 14, .idxA 1 (.tmp 12) (.tmp 13), none⟩, ⟨some 15, .load false 1 (.tmp 14), none⟩, ⟨some 16, .bin .eql (.tmp 11) (.tmp 15), none⟩]) (.cond (.tmp 16) (.seq (.region [⟨some 17, .mv (.tmp 5), none⟩, ⟨some 4, .mv (.tmp 17), none⟩]) .ret) .skip)))) (.region [⟨some 18, .bin .add (.tmp 8) (.c (.one (.t (.int .i64 1)))), none⟩, ⟨some 8, .mv (.tmp 18), none⟩]))))))) (.seq (.region [⟨some 4, .mv (.c (.one (.t (.int .i64 (-1))))), none⟩]) .ret))⟩
theorem k_index : cFn Tryz.prog Tryz.f31 = some c_index := by kernel_rfl
theorem index_ok (l : List Int) (n : Int) (hl : small l.length) : CallOK Tryz.prog 31 [(false, [ints l]), (false, [.int .i64 n])] (.sv (false, [.int .i64 (idx l n)])) := by
  refine callOK_W (callS_W (by kernel_rfl) Tryz.func31 k_index (callable_of Tryz.func31 (by kernel_rfl)) (by simp [c_index]) ?_)
  simp [c_index]
  refine loopW_count 8 l.length (fun k S => S.fr 0 = .one (.t (ints l)) ∧ S.fr 1 = .one (.t (.int .i64 n)) ∧ S.fr 7 = .one (.t (.int .i64 l.length)) ∧ S.ob = noOb ∧ S.cnt = noCnt ∧ n ∉ l.take k) hl ?_ ?_ ?_
  · simp
  · rintro k S hlt hw hc ⟨h0, h1, h7, hob, hcnt, hp⟩
    by_cases he : n = nth l k
    · simp [h0, h1, h7, hc, hlt, drop_nth hlt, ← he, idx_at hlt hp he.symm]
    · simp [h0, h1, h7, hc, hlt, drop_nth hlt, he, hw, hob, hcnt]
      exact take_nth hlt hp (fun e => he e.symm)
  · rintro S hc ⟨h0, h1, h7, hob, hcnt, hp⟩
    simp [h0, h1, h7, hc]
    simpa [idx] using hp

def c_contains : MFunc := ⟨9, [.tmp 4], .seq (.region [⟨some 4, .mv (.c (.one (.t (.bool false)))), none⟩]) (.seq (.region [⟨some 5, .mv (.tmp 0), none⟩, ⟨some 6, .mv (.tmp 1), none⟩, ⟨some 7, .call (.c (.one (.fn 31 []))) 66 [.tmp 5, .tmp 6], none⟩, ⟨some 8, .bin .geq (.tmp 7) (.c (.one (.t (.int .i64 0)))), none⟩, ⟨some 4, .mv (.tmp 8), none⟩]) .ret)⟩
theorem k_contains : cFn Tryz.prog Tryz.f32 = some c_contains := by kernel_rfl
theorem contains_ok (l : List Int) (n : Int) (hl : small l.length) : CallOK Tryz.prog 32 [(false, [ints l]), (false, [.int .i64 n])] (.sv (false, [.bool (decide (n ∈ l))])) := by
  refine callOK_W (callS_W (by kernel_rfl) Tryz.func32 k_contains (callable_of Tryz.func32 (by kernel_rfl)) (by simp [c_contains]) ?_)
  simp [c_contains]
  refine callS_tree (index_ok l n hl) ?_ ?_ ?_
  · rfl
  · rfl
  by_cases h : n ∈ l <;> simp [idx, h]


def c_has07 : MFunc := ⟨18, [.tmp 4], .seq (.region [⟨some 4, .mv (.c (.one (.t (.bool false)))), none⟩]) (.seq (.seq (.region [⟨some 5, .mv (.c (.one (.t (.int .i64 0)))), none⟩]) (.block 0 (.loop (.seq (.seq (.region [⟨some 6, .mv (.tmp 5), none⟩, ⟨some 7, .mv (.tmp 0), none⟩, ⟨some 8, .len (.tmp 7), none⟩, ⟨some 9, .bin .lss (.tmp 6) (.tmp 8), none⟩]) (.cond (.tmp 9) .skip (.exit 0))) (.seq (.block 1 (.seq (.region [⟨some 12, .mv (.tmp 0), none⟩, ⟨some 13, .mv (.tmp 5), none⟩, ⟨some 14, .idxA 1 (.tmp 12) (.tmp 13), none⟩, ⟨some 15, .load false 1 (.tmp 14), none⟩, ⟨some 16, .mv (.tmp 1), none⟩, ⟨some 17, .bin .eql (.tmp 15) (.tmp 16), none⟩]) (.cond (.tmp 17) (.seq (.region [⟨some 4, .mv (.c (.one (.t (.bool true)))), none⟩]) .ret) .skip))) (.region [⟨some 10, .mv (.tmp 5), none⟩, ⟨some 11, .bin .add (.tmp 10) (.c (.one (.t (.int .i64 1)))), none⟩, ⟨some 5, .mv (.tmp 11), none⟩])))))) (.seq (.region [⟨some 4, .mv (.c (.one (.t (.bool false)))), none⟩]) .ret))⟩
theorem k_has07 : cFn Tryz.prog Tryz.f73 = some c_has07 := by kernel_rfl
theorem has07_ok (l : List Int) (n : Int) (hl : small l.length) : CallOK Tryz.prog 73 [(false, [ints l]), (false, [.int .i64 n])] (.sv (false, [.bool (decide (n ∈ l))])) := by
  refine callOK_W (callS_W (by kernel_rfl) Tryz.func73 k_has07 (callable_of Tryz.func73 (by kernel_rfl)) (by simp [c_has07]) ?_)
  simp [c_has07]
  refine loopW_count 5 l.length (fun k S => S.fr 0 = .one (.t (ints l)) ∧ S.fr 1 = .one (.t (.int .i64 n)) ∧ S.ob = noOb ∧ S.cnt = noCnt ∧ n ∉ l.take k) hl ?_ ?_ ?_
  · simp
  · rintro k S hlt hw hc ⟨h0, h1, hob, hcnt, hp⟩
    by_cases he : nth l k = n
    · simp [h0, h1, hc, hlt, drop_nth hlt, he, show n ∈ l from he ▸ nth_mem hlt]
    · simp [h0, h1, hc, hlt, drop_nth hlt, he, hw, hob, hcnt]
      exact take_nth hlt hp he
  · rintro S hc ⟨h0, h1, hob, hcnt, hp⟩
    simp [h0, h1, hc]
    simpa using hp

def within (n most : Int) : Bool := decide (0 ≤ n) && decide (n ≤ most)
def c_within : MFunc := ⟨12, [.tmp 4], .seq (.region [⟨some 4, .mv (.c (.one (.t (.bool false)))), none⟩]) (.seq (.region [⟨some 5, .mv (.tmp 0), none⟩, ⟨some 6, .bin .geq (.tmp 5) (.c (.one (.t (.int .i64 0)))), none⟩, ⟨some 7, .mv (.tmp 6), none⟩, ⟨some 8, .mv (.tmp 0), some (7, true)⟩, ⟨some 9, .mv (.tmp 1), some (7, true)⟩, ⟨some 10, .bin .leq (.tmp 8) (.tmp 9), some (7, true)⟩, ⟨some 11, .pick (.tmp 7) (.tmp 10) (.c (.one (.t (.bool false)))), none⟩, ⟨some 4, .mv (.tmp 11), none⟩]) .ret)⟩
theorem k_within : cFn Tryz.prog Tryz.f121 = some c_within := by kernel_rfl
theorem within_ok (n most : Int) : CallOK Tryz.prog 121 [(false, [.int .i64 n]), (false, [.int .i64 most])] (.sv (false, [.bool (within n most)])) := by
  refine callOK_W (callS_W (by kernel_rfl) Tryz.func121 k_within (callable_of Tryz.func121 (by kernel_rfl)) (by simp [c_within]) ?_)
  by_cases h : 0 ≤ n <;> simp [c_within, within, h]

def c_kind : MFunc := ⟨9, [.tmp 2], .seq (.region [⟨some 2, .mv (.c (.one (.t (.bool false)))), none⟩]) (.seq (.region [⟨some 3, .mv (.tmp 0), none⟩, ⟨some 4, .bin .geq (.tmp 3) (.c (.one (.t (.int .i64 0)))), none⟩, ⟨some 5, .mv (.tmp 4), none⟩, ⟨some 6, .mv (.tmp 0), some (5, true)⟩, ⟨some 7, .bin .leq (.tmp 6) (.c (.one (.t (.int .i64 99)))), some (5, true)⟩, ⟨some 8, .pick (.tmp 5) (.tmp 7) (.c (.one (.t (.bool false)))), none⟩, ⟨some 2, .mv (.tmp 8), none⟩]) .ret)⟩
theorem k_kind : cFn Tryz.prog Tryz.f128 = some c_kind := by kernel_rfl
theorem kind_ok (n : Int) : CallOK Tryz.prog 128 [(false, [.int .i64 n])] (.sv (false, [.bool (within n 99)])) := by
  refine callOK_W (callS_W (by kernel_rfl) Tryz.func128 k_kind (callable_of Tryz.func128 (by kernel_rfl)) (by simp [c_kind]) ?_)
  by_cases h : 0 ≤ n <;> simp [c_kind, within, h]
end Go.Proofs.YthcnpnogfblkcaaGreat

/- Contracts: what a valid graph is, in the program and in the reference. -/
namespace Go.Proofs.YthcnpnogfblkcaaGreat
open Abs
set_option linter.unusedSimpArgs false
set_option linter.unusedVariables false
attribute [local simp] rn0 rn1 rn2 rn3 rn4 rn5 rn6 rn7 evOp nests Arg.ev St.val St.set St.new sliceOf binInt2 binInt AV.cells rdAt St.live retOf resOf resAll treeOf treeCell treeCells treeTups untree frameOf TV.av TR.av ints edgs prs fillV splice intsOf trees V1.tree bx Gr.v Pa.v

def edV (e : Ed) : TV := (true, edC e)
def eOk (n : Int) (e : Ed) : Bool := within e.t 99 && within e.f (n - 1) && within e.g (n - 1)

theorem within_lt (a n : Int) : within a (n - 1) = (decide (0 ≤ a) && decide (a < n)) := by
  by_cases h : 0 ≤ a <;> simp [within, h] <;> omega

def c_right : MFunc := ⟨30, [.tmp 4], .seq (.region [⟨some 2, .box 0 76 (.tmp 0), none⟩, ⟨some 4, .mv (.c (.one (.t (.bool false)))), none⟩]) (.seq (.region [⟨some 5, .fieldA 0 (.tmp 2), none⟩, ⟨some 6, .load false 1 (.tmp 5), none⟩, ⟨some 7, .call (.c (.one (.fn 128 []))) 66 [.tmp 6], none⟩, ⟨some 8, .mv (.tmp 7), none⟩, ⟨some 9, .fieldA 1 (.tmp 2), some (8, true)⟩, ⟨some 10, .load false 1 (.tmp 9), some (8, true)⟩, ⟨some 11, .bin .geq (.tmp 10) (.c (.one (.t (.int .i64 0)))), some (8, true)⟩, ⟨some 12, .pick (.tmp 8) (.tmp 11) (.c (.one (.t (.bool false)))), none⟩, ⟨some 13, .mv (.tmp 12), none⟩, ⟨some 14, .fieldA 1 (.tmp 2), some (13, true)⟩, ⟨some 15, .load false 1 (.tmp 14), some (13, true)⟩, ⟨some 16, .mv (.tmp 1), some (13, true)⟩, ⟨some 17, .bin .lss (.tmp 15) (.tmp 16), some (13, true)⟩, ⟨some 18, .pick (.tmp 13) (.tmp 17) (.c (.one (.t (.bool false)))), none⟩, ⟨some 19, .mv (.tmp 18), none⟩, ⟨some 20, .fieldA 2 (.tmp 2), some (19, true)⟩, ⟨some 21, .load false 1 (.tmp 20), some (19, true)⟩, ⟨some 22, .bin .geq (.tmp 21) (.c (.one (.t (.int .i64 0)))), some (19, true)⟩, ⟨some 23, .pick (.tmp 19) (.tmp 22) (.c (.one (.t (.bool false)))), none⟩, ⟨some 24, .mv (.tmp 23), none⟩, ⟨some 25, .fieldA 2 (.tmp 2), some (24, true)⟩, ⟨some 26, .load false 1 (.tmp 25), some (24, true)⟩, ⟨some 27, .mv (.tmp 1), some (24, true)⟩, ⟨some 28, .bin .lss (.tmp 26) (.tmp 27), some (24, true)⟩, ⟨some 29, .pick (.tmp 24) (.tmp 28) (.c (.one (.t (.bool false)))), none⟩, ⟨some 4, .mv (.tmp 29), none⟩]) .ret)⟩
theorem k_right : cFn Tryz.prog Tryz.f129 = some c_right := by kernel_rfl
theorem right_ok (e : Ed) (n : Int) : CallOK Tryz.prog 129 [edV e, (false, [.int .i64 n])] (.sv (false, [.bool (eOk n e)])) := by
  refine callOK_W (callS_W (by kernel_rfl) Tryz.func129 k_right (callable_of Tryz.func129 (by kernel_rfl)) (by simp [c_right]) ?_)
  simp [c_right, edV, edC]
  refine callS_tree (kind_ok e.t) ?_ ?_ ?_
  · rfl
  · rfl
  simp only [eOk, within_lt]
  cases h1 : within e.t 99 <;> by_cases h2 : 0 ≤ e.f <;> by_cases h3 : e.f < n <;> by_cases h4 : 0 ≤ e.g <;> by_cases h5 : e.g < n <;> simp [h1, h2, h3, h4, h5]

def c_fits : MFunc := ⟨22, [.tmp 4], .seq (.region [⟨some 2, .box 0 76 (.tmp 0), none⟩, ⟨some 4, .mv (.c (.one (.t (.bool false)))), none⟩]) (.seq (.region [⟨some 5, .fieldA 0 (.tmp 2), none⟩, ⟨some 6, .load false 1 (.tmp 5), none⟩, ⟨some 7, .call (.c (.one (.fn 121 []))) 66 [.tmp 6, .c (.one (.t (.int .i64 99)))], none⟩, ⟨some 8, .mv (.tmp 7), none⟩, ⟨some 9, .fieldA 1 (.tmp 2), some (8, true)⟩, ⟨some 10, .load false 1 (.tmp 9), some (8, true)⟩, ⟨some 11, .mv (.tmp 1), some (8, true)⟩, ⟨some 12, .bin .sub (.tmp 11) (.c (.one (.t (.int .i64 1)))), some (8, true)⟩, ⟨some 13, .call (.c (.one (.fn 121 []))) 72 [.tmp 10, .tmp 12], some (8, true)⟩, ⟨some 14, .pick (.tmp 8) (.tmp 13) (.c (.one (.t (.bool false)))), none⟩, ⟨some 15, .mv (.tmp 14), none⟩, ⟨some 16, .fieldA 2 (.tmp 2), some (15, true)⟩, ⟨some 17, .load false 1 (.tmp 16), some (15, true)⟩, ⟨some 18, .mv (.tmp 1), some (15, true)⟩, ⟨some 19, .bin .sub (.tmp 18) (.c (.one (.t (.int .i64 1)))), some (15, true)⟩, ⟨some 20, .call (.c (.one (.fn 121 []))) 79 [.tmp 17, .tmp 19], some (15, true)⟩, ⟨some 21, .pick (.tmp 15) (.tmp 20) (.c (.one (.t (.bool false)))), none⟩, ⟨some 4, .mv (.tmp 21), none⟩]) .ret)⟩
theorem k_fits : cFn Tryz.prog Tryz.f124 = some c_fits := by kernel_rfl
theorem fits_ok (e : Ed) (n : Int) (hn : 0 ≤ n ∧ n ≤ 1000000) : CallOK Tryz.prog 124 [edV e, (false, [.int .i64 n])] (.sv (false, [.bool (eOk n e)])) := by
  refine callOK_W (callS_W (by kernel_rfl) Tryz.func124 k_fits (callable_of Tryz.func124 (by kernel_rfl)) (by simp [c_fits]) ?_)
  have hw : IntKind.i64.wrap (n - 1) = n - 1 := by rw [wrap64_id] <;> omega
  simp [c_fits, edV, edC]
  refine callS_tree (within_ok e.t 99) ?_ ?_ ?_
  · rfl
  · rfl
  cases h1 : within e.t 99
  · simp [eOk, h1]
  · simp [h1, hw]
    refine callS_tree (within_ok e.f (n - 1)) ?_ ?_ ?_
    · rfl
    · rfl
    cases h2 : within e.f (n - 1)
    · simp [eOk, h1, h2]
    · simp [h1, h2, hw]
      refine callS_tree (within_ok e.g (n - 1)) ?_ ?_ ?_
      · rfl
      · rfl
      simp [eOk, h1, h2]

/-- The first place where p holds, or -1. -/
def fidx {α : Type} (p : α → Bool) (l : List α) : Int := if l.any p then (l.findIdx p : Nat) else -1

theorem fidx_at {α : Type} {p : α → Bool} {l : List α} {k : Nat} (hk : k < l.length) (hn : ∀ j, (h : j < k) → p (l[j]'(by omega)) = false) (he : p l[k] = true) : fidx p l = k := by
  have ha : l.any p = true := List.any_eq_true.2 ⟨l[k], List.getElem_mem hk, he⟩
  have : l.findIdx p = k := List.findIdx_eq hk |>.2 ⟨he, hn⟩
  simp [fidx, ha, this]

theorem fidx_none {α : Type} {p : α → Bool} {l : List α} (hn : ∀ j, (h : j < l.length) → p l[j] = false) : fidx p l = -1 := by
  have ha : l.any p = false := by
    rw [List.any_eq_false]
    intro x hx
    obtain ⟨j, hj, rfl⟩ := List.mem_iff_getElem.1 hx
    simp [hn j hj]
  simp [fidx, ha]

def c_indexF : MFunc := ⟨19, [.tmp 4], .seq (.region [⟨some 4, .mv (.c (.one (.t (.int .i64 0)))), none⟩]) (.seq (.seq (.region [⟨some 6, .mv (.tmp 0), none⟩, ⟨some 7, .len (.tmp 6), none⟩, ⟨some 8, .mv (.c (.one (.t (.int .i64 0)))), none⟩]) (.block 0 (.loop (.seq (.region [⟨some 9, .bin .lss (.tmp 8) (.tmp 7), none⟩]) (.seq (.cond (.tmp 9) .skip (.exit 0)) (.seq (.block 1 (.seq (.region [⟨some 10, .mv (.tmp 8), none⟩, ⟨some 5, .mv (.tmp 10), none⟩]) (.seq (.region [⟨some 11, .mv (.tmp 1), none⟩, ⟨some 12, .mv (.tmp 0), none⟩, ⟨some 13, .mv (.tmp 5), none⟩, ⟨some 14, .idxA 1 (.tmp 12) (.tmp 13), none⟩, ⟨some 15, .load false 1 (.tmp 14), none⟩, ⟨some 16, .call (.tmp 11) 261 [.tmp 15], none⟩]) (.cond (.tmp 16) (.seq (.region [⟨some 17, .mv (.tmp 5), none⟩, ⟨some 4, .mv (.tmp 17), none⟩]) .ret) .skip)))) (.region [⟨some 18, .bin .add (.tmp 8) (.c (.one (.t (.int .i64 1)))), none⟩, ⟨some 8, .mv (.tmp 18), none⟩]))))))) (.seq (.region [⟨some 4, .mv (.c (.one (.t (.int .i64 (-1))))), none⟩]) .ret))⟩
theorem k_indexF : cFn Tryz.prog Tryz.f156 = some c_indexF := by kernel_rfl
theorem indexF_S {g : FuncId} {caps : List Nm} {ob : Nm → Option Ob} {cnt : Nat → Nat} {K : AV → (Nm → Option Ob) → (Nat → Nat) → Prop} (l : List Int) (p : Int → Bool) (hl : small l.length) (I : (Nm → Option Ob) → (Nat → Nat) → Prop)
    (h : ∀ x ∈ l, ∀ ob cnt, I ob cnt → ∀ K : AV → (Nm → Option Ob) → (Nat → Nat) → Prop, (∀ ob cnt, I ob cnt → K (.one (.t (.bool (p x)))) ob cnt) → CallS Tryz.prog g (.one (.t (.int .i64 x)) :: caps.map (fun n => .one (.ptr n 0))) ob cnt K)
    (hI : I ob cnt) (hK : ∀ ob cnt, I ob cnt → K (.one (.t (.int .i64 (fidx p l)))) ob cnt) : CallS Tryz.prog 156 [.one (.t (ints l)), .one (.fn g caps)] ob cnt K := by
  refine callS_W (by kernel_rfl) Tryz.func156 k_indexF (callable_of Tryz.func156 (by kernel_rfl)) (by simp [c_indexF]) ?_
  simp [c_indexF]
  refine loopW_count 8 l.length (fun k S => S.fr 0 = .one (.t (ints l)) ∧ S.fr 1 = .one (.fn g caps) ∧ S.fr 7 = .one (.t (.int .i64 l.length)) ∧ I S.ob S.cnt ∧ ∀ j, (hj : j < l.length) → j < k → p l[j] = false) hl ?_ ?_ ?_
  · simp [hI]
  · rintro k S hlt hw hc ⟨h0, h1, h7, hi, hp⟩
    simp [h0, h1, h7, hc, hlt, drop_nth hlt, kCall_k]
    refine h _ (nth_mem hlt) _ _ hi _ fun ob cnt hi => ?_
    cases he : p (nth l k)
    · simp [h0, h1, h7, hc, he, hw, hi]
      intro j hj hk
      rcases Nat.lt_succ_iff_lt_or_eq.1 hk with hk | rfl
      · exact hp j hj hk
      · rw [nth_eq hlt] at he
        exact he
    · have e : fidx p l = k := fidx_at hlt (fun j hj => hp j _ hj) (by rw [nth_eq hlt] at he; exact he)
      have hK := hK ob cnt hi
      simp [h0, h1, h7, hc, he, hw, e] at hK ⊢
      exact hK
  · rintro S hc ⟨h0, h1, h7, hi, hp⟩
    have e : fidx p l = -1 := fidx_none fun j hj => hp j hj hj
    have hK := hK _ _ hi
    rw [e] at hK
    simpa [h0, h1, h7, hc] using hK

def c_containsF : MFunc := ⟨9, [.tmp 4], .seq (.region [⟨some 4, .mv (.c (.one (.t (.bool false)))), none⟩]) (.seq (.region [⟨some 5, .mv (.tmp 0), none⟩, ⟨some 6, .mv (.tmp 1), none⟩, ⟨some 7, .call (.c (.one (.fn 156 []))) 66 [.tmp 5, .tmp 6], none⟩, ⟨some 8, .bin .geq (.tmp 7) (.c (.one (.t (.int .i64 0)))), none⟩, ⟨some 4, .mv (.tmp 8), none⟩]) .ret)⟩
theorem k_containsF : cFn Tryz.prog Tryz.f119 = some c_containsF := by kernel_rfl
theorem containsF_S {g : FuncId} {caps : List Nm} {ob : Nm → Option Ob} {cnt : Nat → Nat} {K : AV → (Nm → Option Ob) → (Nat → Nat) → Prop} (l : List Int) (p : Int → Bool) (hl : small l.length) (I : (Nm → Option Ob) → (Nat → Nat) → Prop)
    (h : ∀ x ∈ l, ∀ ob cnt, I ob cnt → ∀ K : AV → (Nm → Option Ob) → (Nat → Nat) → Prop, (∀ ob cnt, I ob cnt → K (.one (.t (.bool (p x)))) ob cnt) → CallS Tryz.prog g (.one (.t (.int .i64 x)) :: caps.map (fun n => .one (.ptr n 0))) ob cnt K)
    (hI : I ob cnt) (hK : ∀ ob cnt, I ob cnt → K (.one (.t (.bool (l.any p)))) ob cnt) : CallS Tryz.prog 119 [.one (.t (ints l)), .one (.fn g caps)] ob cnt K := by
  refine callS_W (by kernel_rfl) Tryz.func119 k_containsF (callable_of Tryz.func119 (by kernel_rfl)) (by simp [c_containsF]) ?_
  simp [c_containsF]
  refine indexF_S l p hl I h hI fun ob cnt hi => ?_
  have hK := hK ob cnt hi
  cases ha : l.any p <;> (rw [ha] at hK; simpa [fidx, ha] using hK)
end Go.Proofs.YthcnpnogfblkcaaGreat

/- Contracts: what a valid graph is, in the program and in the reference (2). -/
namespace Go.Proofs.YthcnpnogfblkcaaGreat
open Abs
set_option linter.unusedSimpArgs false
set_option linter.unusedVariables false
attribute [local simp] rn0 rn1 rn2 rn3 rn4 rn5 rn6 rn7 evOp nests Arg.ev St.val St.set St.new sliceOf binInt2 binInt AV.cells rdAt St.live retOf resOf resAll treeOf treeCell treeCells treeTups untree frameOf TV.av TR.av ints edgs prs fillV splice intsOf trees V1.tree bx Gr.v Pa.v opRd opWr opNew opNewR opArgs argsRd argRd Arg.rd AV.refs V1.refs refsL dstL

def c_indexFE : MFunc := ⟨19, [.tmp 4], .seq (.region [⟨some 4, .mv (.c (.one (.t (.int .i64 0)))), none⟩]) (.seq (.seq (.region [⟨some 6, .mv (.tmp 0), none⟩, ⟨some 7, .len (.tmp 6), none⟩, ⟨some 8, .mv (.c (.one (.t (.int .i64 0)))), none⟩]) (.block 0 (.loop (.seq (.region [⟨some 9, .bin .lss (.tmp 8) (.tmp 7), none⟩]) (.seq (.cond (.tmp 9) .skip (.exit 0)) (.seq (.block 1 (.seq (.region [⟨some 10, .mv (.tmp 8), none⟩, ⟨some 5, .mv (.tmp 10), none⟩]) (.seq (.region [⟨some 11, .mv (.tmp 1), none⟩, ⟨some 12, .mv (.tmp 0), none⟩, ⟨some 13, .mv (.tmp 5), none⟩, ⟨some 14, .idxA 3 (.tmp 12) (.tmp 13), none⟩, ⟨some 15, .load true 3 (.tmp 14), none⟩, ⟨some 16, .call (.tmp 11) 261 [.tmp 15], none⟩]) (.cond (.tmp 16) (.seq (.region [⟨some 17, .mv (.tmp 5), none⟩, ⟨some 4, .mv (.tmp 17), none⟩]) .ret) .skip)))) (.region [⟨some 18, .bin .add (.tmp 8) (.c (.one (.t (.int .i64 1)))), none⟩, ⟨some 8, .mv (.tmp 18), none⟩]))))))) (.seq (.region [⟨some 4, .mv (.c (.one (.t (.int .i64 (-1))))), none⟩]) .ret))⟩
theorem k_indexFE : cFn Tryz.prog Tryz.f157 = some c_indexFE := by kernel_rfl
theorem indexFE_S {g : FuncId} {caps : List Nm} {ob : Nm → Option Ob} {cnt : Nat → Nat} {K : AV → (Nm → Option Ob) → (Nat → Nat) → Prop} (l : List Ed) (p : Ed → Bool) (hl : small l.length) (I : (Nm → Option Ob) → (Nat → Nat) → Prop)
    (h : ∀ x ∈ l, ∀ ob cnt, I ob cnt → ∀ K : AV → (Nm → Option Ob) → (Nat → Nat) → Prop, (∀ ob cnt, I ob cnt → K (.one (.t (.bool (p x)))) ob cnt) → CallS Tryz.prog g (.agg ((edC x).map .t) :: caps.map (fun n => .one (.ptr n 0))) ob cnt K)
    (hI : I ob cnt) (hK : ∀ ob cnt, I ob cnt → K (.one (.t (.int .i64 (fidx p l)))) ob cnt) : CallS Tryz.prog 157 [.one (.t (edgs l)), .one (.fn g caps)] ob cnt K := by
  refine callS_W (by kernel_rfl) Tryz.func157 k_indexFE (callable_of Tryz.func157 (by kernel_rfl)) (by simp [c_indexFE]) ?_
  simp [c_indexFE]
  refine loopW_count 8 l.length (fun k S => S.fr 0 = .one (.t (edgs l)) ∧ S.fr 1 = .one (.fn g caps) ∧ S.fr 7 = .one (.t (.int .i64 l.length)) ∧ I S.ob S.cnt ∧ ∀ j, (hj : j < l.length) → j < k → p l[j] = false) hl ?_ ?_ ?_
  · simp [hI]
  · rintro k S hlt hw hc ⟨h0, h1, h7, hi, hp⟩
    have hlt3 : k * 3 < l.length * 3 := by omega
    simp [h0, h1, h7, hc, hlt, hlt3, drop_edL hlt, kCall_k]
    refine h _ (eth_mem hlt) _ _ hi _ fun ob cnt hi => ?_
    have he' : eth l k = l[k] := by simp [eth, hlt]
    cases he : p (eth l k)
    · simp [h0, h1, h7, hc, he, hw, hi]
      intro j hj hk
      rcases Nat.lt_succ_iff_lt_or_eq.1 hk with hk | rfl
      · exact hp j hj hk
      · rw [he'] at he
        exact he
    · have e : fidx p l = k := fidx_at hlt (fun j hj => hp j _ hj) (by rw [he'] at he; exact he)
      have hK := hK ob cnt hi
      simp [h0, h1, h7, hc, he, hw, e] at hK ⊢
      exact hK
  · rintro S hc ⟨h0, h1, h7, hi, hp⟩
    have e : fidx p l = -1 := fidx_none fun j hj => hp j hj hj
    have hK := hK _ _ hi
    rw [e] at hK
    simpa [h0, h1, h7, hc] using hK

def c_containsFE : MFunc := ⟨9, [.tmp 4], .seq (.region [⟨some 4, .mv (.c (.one (.t (.bool false)))), none⟩]) (.seq (.region [⟨some 5, .mv (.tmp 0), none⟩, ⟨some 6, .mv (.tmp 1), none⟩, ⟨some 7, .call (.c (.one (.fn 157 []))) 66 [.tmp 5, .tmp 6], none⟩, ⟨some 8, .bin .geq (.tmp 7) (.c (.one (.t (.int .i64 0)))), none⟩, ⟨some 4, .mv (.tmp 8), none⟩]) .ret)⟩
theorem k_containsFE : cFn Tryz.prog Tryz.f122 = some c_containsFE := by kernel_rfl
theorem containsFE_S {g : FuncId} {caps : List Nm} {ob : Nm → Option Ob} {cnt : Nat → Nat} {K : AV → (Nm → Option Ob) → (Nat → Nat) → Prop} (l : List Ed) (p : Ed → Bool) (hl : small l.length) (I : (Nm → Option Ob) → (Nat → Nat) → Prop)
    (h : ∀ x ∈ l, ∀ ob cnt, I ob cnt → ∀ K : AV → (Nm → Option Ob) → (Nat → Nat) → Prop, (∀ ob cnt, I ob cnt → K (.one (.t (.bool (p x)))) ob cnt) → CallS Tryz.prog g (.agg ((edC x).map .t) :: caps.map (fun n => .one (.ptr n 0))) ob cnt K)
    (hI : I ob cnt) (hK : ∀ ob cnt, I ob cnt → K (.one (.t (.bool (l.any p)))) ob cnt) : CallS Tryz.prog 122 [.one (.t (edgs l)), .one (.fn g caps)] ob cnt K := by
  refine callS_W (by kernel_rfl) Tryz.func122 k_containsFE (callable_of Tryz.func122 (by kernel_rfl)) (by simp [c_containsFE]) ?_
  simp [c_containsFE]
  refine indexFE_S l p hl I h hI fun ob cnt hi => ?_
  have hK := hK ob cnt hi
  cases ha : l.any p <;> (rw [ha] at hK; simpa [fidx, ha] using hK)

def nBad (l : List Int) : Bool := l.any fun x => !within x 99
def eBad (n : Nat) (l : List Ed) : Bool := l.any fun e => !eOk n e
/-- The error of a graph. -/
def gErr (g : Gr) : Int :=
  if (40 : Int) < g.nodes.length ∨ (80 : Int) < g.edges.length then 3
  else if nBad g.nodes then 6
  else if eBad g.nodes.length g.edges then 6 else 0

def c_valid1 : MFunc := ⟨6, [.tmp 2], .seq (.region [⟨some 2, .mv (.c (.one (.t (.bool false)))), none⟩]) (.seq (.region [⟨some 3, .mv (.tmp 0), none⟩, ⟨some 4, .call (.c (.one (.fn 121 []))) 65 [.tmp 3, .c (.one (.t (.int .i64 99)))], none⟩, ⟨some 5, .not (.tmp 4), none⟩, ⟨some 2, .mv (.tmp 5), none⟩]) .ret)⟩
theorem k_valid1 : cFn Tryz.prog Tryz.f120 = some c_valid1 := by kernel_rfl
def c_valid2 : MFunc := ⟨10, [.tmp 3], .seq (.region [⟨some 2, .box 0 76 (.tmp 0), none⟩, ⟨some 3, .mv (.c (.one (.t (.bool false)))), none⟩]) (.seq (.region [⟨some 4, .load true 3 (.tmp 2), none⟩, ⟨some 5, .fieldA 0 (.tmp 1), none⟩, ⟨some 6, .load false 1 (.tmp 5), none⟩, ⟨some 7, .len (.tmp 6), none⟩, ⟨some 8, .call (.c (.one (.fn 124 []))) 68 [.tmp 4, .tmp 7], none⟩, ⟨some 9, .not (.tmp 8), none⟩, ⟨some 3, .mv (.tmp 9), none⟩]) .ret)⟩
theorem k_valid2 : cFn Tryz.prog Tryz.f123 = some c_valid2 := by kernel_rfl
def c_gvalid : MFunc := ⟨20, [.tmp 2], .seq (.region [⟨some 1, .box 0 25 (.tmp 0), none⟩, ⟨some 2, .mv (.c (.one (.t (.int .i64 0)))), none⟩]) (.seq (.seq (.region [⟨some 3, .fieldA 0 (.tmp 1), none⟩, ⟨some 4, .load false 1 (.tmp 3), none⟩, ⟨some 5, .len (.tmp 4), none⟩, ⟨some 6, .bin .gtr (.tmp 5) (.c (.one (.t (.int .i64 40)))), none⟩, ⟨some 7, .mv (.tmp 6), none⟩, ⟨some 8, .fieldA 1 (.tmp 1), some (7, false)⟩, ⟨some 9, .load false 1 (.tmp 8), some (7, false)⟩, ⟨some 10, .len (.tmp 9), some (7, false)⟩, ⟨some 11, .bin .gtr (.tmp 10) (.c (.one (.t (.int .i64 80)))), some (7, false)⟩, ⟨some 12, .pick (.tmp 7) (.c (.one (.t (.bool true)))) (.tmp 11), none⟩]) (.cond (.tmp 12) (.seq (.region [⟨some 2, .mv (.c (.one (.t (.int .i64 3)))), none⟩]) .ret) .skip)) (.seq (.seq (.region [⟨some 13, .fieldA 0 (.tmp 1), none⟩, ⟨some 14, .load false 1 (.tmp 13), none⟩, ⟨some 15, .call (.c (.one (.fn 119 []))) 194 [.tmp 14, .c (.one (.fn 120 []))], none⟩]) (.cond (.tmp 15) (.seq (.region [⟨some 2, .mv (.c (.one (.t (.int .i64 6)))), none⟩]) .ret) .skip)) (.seq (.seq (.region [⟨some 16, .fieldA 1 (.tmp 1), none⟩, ⟨some 17, .load false 1 (.tmp 16), none⟩, ⟨some 18, .mkfn 123 [.tmp 1], none⟩, ⟨some 19, .call (.c (.one (.fn 122 []))) 323 [.tmp 17, .tmp 18], none⟩]) (.cond (.tmp 19) (.seq (.region [⟨some 2, .mv (.c (.one (.t (.int .i64 6)))), none⟩]) .ret) .skip)) (.seq (.region [⟨some 2, .mv (.c (.one (.t (.int .i64 0)))), none⟩]) .ret))))⟩
theorem k_gvalid : cFn Tryz.prog Tryz.f82 = some c_gvalid := by kernel_rfl
theorem gvalid_ok (g : Gr) (hn : small g.nodes.length) (he : small g.edges.length) : CallOK Tryz.prog 82 [g.v] (.sv (false, [.int .i64 (gErr g)])) := by
  refine callOK_W (callS_W (by kernel_rfl) Tryz.func82 k_gvalid (callable_of Tryz.func82 (by kernel_rfl)) (by simp [c_gvalid]) ?_)
  by_cases h1 : (40 : Int) < g.nodes.length
  · simp [c_gvalid, h1, gErr]
  by_cases h2 : (80 : Int) < g.edges.length
  · simp [c_gvalid, h1, h2, gErr]
  simp [c_gvalid, h1, h2]
  let I : (Nm → Option Ob) → (Nat → Nat) → Prop := fun ob cnt => ob (0, 0) = some (bx 25 (g.v.2.map .t)) ∧ 0 < cnt 0
  refine containsF_S (caps := []) g.nodes (fun x => !within x 99) hn I (fun x _ ob cnt hi K hK => ?_) ?_ ?_
  · refine callS_W (by kernel_rfl) Tryz.func120 k_valid1 (callable_of Tryz.func120 (by kernel_rfl)) (by simp [c_valid1]) ?_
    simp [c_valid1]
    refine callS_tree (within_ok x 99) ?_ ?_ ?_
    · rfl
    · rfl
    simpa using hK _ _ hi
  · simp [I]
  rintro ob cnt ⟨hi, hi2⟩
  rw [show (g.nodes.any fun x => !within x 99) = nBad g.nodes from rfl]
  cases h3 : nBad g.nodes
  case true => simp [h3, h1, h2, hi, gErr]
  simp [h3, h1, h2, hi, List.mapM_cons]
  refine containsFE_S (caps := [(0, 0)]) g.edges (fun e => !eOk g.nodes.length e) he I (fun x _ ob cnt hi K hK => ?_) ⟨hi, hi2⟩ ?_
  · obtain ⟨hi, hi2⟩ := hi
    refine callS_W (by kernel_rfl) Tryz.func123 k_valid2 (callable_of Tryz.func123 (by kernel_rfl)) (by simp [c_valid2]) ?_
    have hne : ¬ 0 = cnt 0 := by omega
    simp [c_valid2, edC, hi, hne]
    refine callS_tree (fits_ok x g.nodes.length (by omega)) ?_ ?_ ?_
    · rfl
    · rfl
    simp
    exact hK _ _ ⟨by simp [hne, hi], by simp⟩
  rintro ob cnt ⟨hi, hi2⟩
  rw [show (g.edges.any fun e => !eOk g.nodes.length e) = eBad g.nodes.length g.edges from rfl]
  cases h4 : eBad g.nodes.length g.edges <;> simp [h4, h3, h1, h2, gErr]

def c_rvalid : MFunc := ⟨46, [.tmp 2], .seq (.region [⟨some 1, .box 0 25 (.tmp 0), none⟩, ⟨some 2, .mv (.c (.one (.t (.int .i64 0)))), none⟩]) (.seq (.seq (.region [⟨some 5, .fieldA 0 (.tmp 1), none⟩, ⟨some 6, .load false 1 (.tmp 5), none⟩, ⟨some 7, .len (.tmp 6), none⟩, ⟨some 8, .bin .gtr (.tmp 7) (.c (.one (.t (.int .i64 40)))), none⟩, ⟨some 9, .mv (.tmp 8), none⟩, ⟨some 10, .fieldA 1 (.tmp 1), some (9, false)⟩, ⟨some 11, .load false 1 (.tmp 10), some (9, false)⟩, ⟨some 12, .len (.tmp 11), some (9, false)⟩, ⟨some 13, .bin .gtr (.tmp 12) (.c (.one (.t (.int .i64 80)))), some (9, false)⟩, ⟨some 14, .pick (.tmp 9) (.c (.one (.t (.bool true)))) (.tmp 13), none⟩]) (.cond (.tmp 14) (.seq (.region [⟨some 2, .mv (.c (.one (.t (.int .i64 3)))), none⟩]) .ret) .skip)) (.seq (.seq (.region [⟨some 3, .mv (.c (.one (.t (.int .i64 0)))), none⟩]) (.block 0 (.loop (.seq (.seq (.region [⟨some 15, .mv (.tmp 3), none⟩, ⟨some 16, .fieldA 0 (.tmp 1), none⟩, ⟨some 17, .load false 1 (.tmp 16), none⟩, ⟨some 18, .len (.tmp 17), none⟩, ⟨some 19, .bin .lss (.tmp 15) (.tmp 18), none⟩]) (.cond (.tmp 19) .skip (.exit 0))) (.seq (.block 1 (.seq (.region [⟨some 22, .fieldA 0 (.tmp 1), none⟩, ⟨some 23, .load false 1 (.tmp 22), none⟩, ⟨some 24, .mv (.tmp 3), none⟩, ⟨some 25, .idxA 1 (.tmp 23) (.tmp 24), none⟩, ⟨some 26, .load false 1 (.tmp 25), none⟩, ⟨some 27, .call (.c (.one (.fn 128 []))) 389 [.tmp 26], none⟩, ⟨some 28, .not (.tmp 27), none⟩]) (.cond (.tmp 28) (.seq (.region [⟨some 2, .mv (.c (.one (.t (.int .i64 6)))), none⟩]) .ret) .skip))) (.region [⟨some 20, .mv (.tmp 3), none⟩, ⟨some 21, .bin .add (.tmp 20) (.c (.one (.t (.int .i64 1)))), none⟩, ⟨some 3, .mv (.tmp 21), none⟩])))))) (.seq (.seq (.region [⟨some 4, .mv (.c (.one (.t (.int .i64 0)))), none⟩]) (.block 2 (.loop (.seq (.seq (.region [⟨some 29, .mv (.tmp 4), none⟩, ⟨some 30, .fieldA 1 (.tmp 1), none⟩, ⟨some 31, .load false 1 (.tmp 30), none⟩, ⟨some 32, .len (.tmp 31), none⟩, ⟨some 33, .bin .lss (.tmp 29) (.tmp 32), none⟩]) (.cond (.tmp 33) .skip (.exit 2))) (.seq (.block 3 (.seq (.draw [[], [0], [], [1, 2], [3], [], [5], [6], [4, 7], [8]] [⟨some 36, .fieldA 1 (.tmp 1), none⟩, ⟨some 37, .load false 1 (.tmp 36), none⟩, ⟨some 38, .mv (.tmp 4), none⟩, ⟨some 39, .idxA 3 (.tmp 37) (.tmp 38), none⟩, ⟨some 40, .load true 3 (.tmp 39), none⟩, ⟨some 41, .fieldA 0 (.tmp 1), none⟩, ⟨some 42, .load false 1 (.tmp 41), none⟩, ⟨some 43, .len (.tmp 42), none⟩, ⟨some 44, .call (.c (.one (.fn 129 []))) 712 [.tmp 40, .tmp 43], none⟩, ⟨some 45, .not (.tmp 44), none⟩]) (.cond (.tmp 45) (.seq (.region [⟨some 2, .mv (.c (.one (.t (.int .i64 6)))), none⟩]) .ret) .skip))) (.region [⟨some 34, .mv (.tmp 4), none⟩, ⟨some 35, .bin .add (.tmp 34) (.c (.one (.t (.int .i64 1)))), none⟩, ⟨some 4, .mv (.tmp 35), none⟩])))))) (.seq (.region [⟨some 2, .mv (.c (.one (.t (.int .i64 0)))), none⟩]) .ret))))⟩
theorem k_rvalid : cFn Tryz.prog Tryz.f87 = some c_rvalid := by kernel_rfl
theorem rvalid_ok (g : Gr) (hn : small g.nodes.length) (he : small g.edges.length) : CallOK Tryz.prog 87 [g.v] (.sv (false, [.int .i64 (gErr g)])) := by
  refine callOK_W (callS_W (by kernel_rfl) Tryz.func87 k_rvalid (callable_of Tryz.func87 (by kernel_rfl)) (by simp [c_rvalid]) ?_)
  by_cases h1 : (40 : Int) < g.nodes.length
  · simp [c_rvalid, h1, gErr]
  by_cases h2 : (80 : Int) < g.edges.length
  · simp [c_rvalid, h1, h2, gErr]
  simp [c_rvalid, h1, h2]
  refine loopW_count 3 g.nodes.length (fun k S => S.fr 1 = .one (.ptr (0, 0) 0) ∧ S.ob = upd noOb (0, 0) (some (bx 25 (g.v.2.map .t))) ∧ ∀ j, j < k → within (nth g.nodes j) 99 = true) hn ?_ ?_ ?_
  · simp
  · rintro k S hlt hw hc ⟨h0, hob, hp⟩
    simp [h0, hc, hlt, drop_nth hlt, hob]
    refine callS_tree (kind_ok (nth g.nodes k)) ?_ ?_ ?_
    · rfl
    · rfl
    cases he : within (nth g.nodes k) 99
    · have : nBad g.nodes = true := List.any_eq_true.2 ⟨_, nth_mem hlt, by simp [he]⟩
      simp [h0, hc, hob, he, this, h1, h2, gErr]
    · simp [h0, hc, hob, he, hw]
      intro j hj
      rcases Nat.lt_succ_iff_lt_or_eq.1 hj with hj | rfl
      · exact hp j hj
      · exact he
  · rintro S hc ⟨h0, hob, hp⟩
    have h3 : nBad g.nodes = false := by
      rw [nBad, List.any_eq_false]
      intro x hx
      obtain ⟨j, hj, rfl⟩ := mem_nth hx
      simp [hp j hj]
    simp [h0, hc, hob, h3]
    refine loopW_count 4 g.edges.length (fun k S => S.fr 1 = .one (.ptr (0, 0) 0) ∧ S.ob = upd noOb (0, 0) (some (bx 25 (g.v.2.map .t))) ∧ ∀ j, j < k → eOk g.nodes.length (eth g.edges j) = true) he ?_ ?_ ?_
    · simp [h0, hob]
    · rintro k S hlt hw hc ⟨h0, hob, hp⟩
      have hlt3 : k * 3 < g.edges.length * 3 := by omega
      simp [dw0, dw1, dw2, dw3, h0, hc, hlt, hlt3, drop_edL hlt, hob]
      refine dCall_ok (right_ok (eth g.edges k) g.nodes.length) ?_ ?_ ?_
      · rfl
      · rfl
      cases he : eOk g.nodes.length (eth g.edges k)
      · have : eBad g.nodes.length g.edges = true := List.any_eq_true.2 ⟨_, eth_mem hlt, by simp [he]⟩
        simp [dw0, dw1, dw2, dw3, h0, hc, hob, he, this, h1, h2, h3, gErr]
        rfl
      · simp [dw0, dw1, dw2, dw3, h0, hc, hob, he, hw]
        refine ⟨rfl, fun j hj => ?_⟩
        rcases Nat.lt_succ_iff_lt_or_eq.1 hj with hj | rfl
        · exact hp j hj
        · exact he
    · rintro S hc ⟨h0, hob, hp⟩
      have h4 : eBad g.nodes.length g.edges = false := by
        rw [eBad, List.any_eq_false]
        intro x hx
        obtain ⟨j, hj, rfl⟩ := mem_eth hx
        simp [hp j hj]
      simp [h0, hc, hob, h3, h4, h1, h2, gErr]
end Go.Proofs.YthcnpnogfblkcaaGreat

/- Contracts: parts of graphs. -/
namespace Go.Proofs.YthcnpnogfblkcaaGreat
open Abs
set_option linter.unusedSimpArgs false
set_option linter.unusedVariables false
attribute [local simp] rn0 rn1 rn2 rn3 rn4 rn5 rn6 rn7 evOp nests Arg.ev St.val St.set St.new sliceOf binInt2 binInt AV.cells rdAt St.live retOf resOf resAll treeOf treeCell treeCells treeTups untree frameOf TV.av TR.av ints edgs prs fillV splice intsOf trees V1.tree bx Gr.v Pa.v opRd opWr opNew opNewR opArgs argsRd argRd Arg.rd AV.refs V1.refs refsL dstL

def ascF (l : List Int) (n : Int) (i : Nat) : Int := if nth l i < 0 then 6 else if n ≤ nth l i then 6 else if 0 < i ∧ nth l i ≤ nth l (i - 1) then 12 else 0
/-- The error of an ascending list of numbers below n. -/
def ascErr (l : List Int) (n : Int) : Int := fe (ascF l n) l.length

theorem wrap_nat {j n : Nat} (h : j < n) (hn : small n) : IntKind.i64.wrap (j : Int) = j := by
  simp only [small] at hn
  rw [wrap64_id] <;> omega

theorem lt_succ_all {p : Nat → Prop} {k : Nat} (h : ∀ j, j < k → p j) (hk : p k) : ∀ j, j < k + 1 → p j := fun j hj => by
  rcases Nat.lt_succ_iff_lt_or_eq.1 hj with hj | rfl
  · exact h j hj
  · exact hk

theorem pred_of {k n : Nat} (h : 0 < k) (hk : k < n) (hn : small n) : ∃ j, j + 1 = k ∧ k - 1 = j ∧ j < n ∧ IntKind.i64.wrap ((k : Int) - 1) = j := by
  simp only [small] at hn
  exact ⟨k - 1, by omega, rfl, by omega, by rw [wrap64_id] <;> omega⟩

def c_list : MFunc := ⟨33, [.tmp 4], .seq (.region [⟨some 4, .mv (.c (.one (.t (.int .i64 0)))), none⟩]) (.seq (.seq (.region [⟨some 7, .mv (.tmp 0), none⟩, ⟨some 8, .len (.tmp 7), none⟩, ⟨some 9, .mv (.c (.one (.t (.int .i64 0)))), none⟩]) (.block 0 (.loop (.seq (.region [⟨some 10, .bin .lss (.tmp 9) (.tmp 8), none⟩]) (.seq (.cond (.tmp 10) .skip (.exit 0)) (.seq (.block 1 (.seq (.region [⟨some 11, .mv (.tmp 9), none⟩, ⟨some 12, .idxA 1 (.tmp 7) (.tmp 9), none⟩, ⟨some 13, .load false 1 (.tmp 12), none⟩, ⟨some 5, .mv (.tmp 11), none⟩, ⟨some 6, .mv (.tmp 13), none⟩]) (.seq (.seq (.region [⟨some 14, .mv (.tmp 6), none⟩, ⟨some 15, .bin .lss (.tmp 14) (.c (.one (.t (.int .i64 0)))), none⟩, ⟨some 16, .mv (.tmp 15), none⟩, ⟨some 17, .mv (.tmp 6), some (16, false)⟩, ⟨some 18, .mv (.tmp 1), some (16, false)⟩, ⟨some 19, .bin .geq (.tmp 17) (.tmp 18), some (16, false)⟩, ⟨some 20, .pick (.tmp 16) (.c (.one (.t (.bool true)))) (.tmp 19), none⟩]) (.cond (.tmp 20) (.seq (.region [⟨some 4, .mv (.c (.one (.t (.int .i64 6)))), none⟩]) .ret) .skip)) (.seq (.region [⟨some 21, .mv (.tmp 5), none⟩, ⟨some 22, .bin .gtr (.tmp 21) (.c (.one (.t (.int .i64 0)))), none⟩, ⟨some 23, .mv (.tmp 22), none⟩, ⟨some 24, .mv (.tmp 6), some (23, true)⟩, ⟨some 25, .mv (.tmp 0), some (23, true)⟩, ⟨some 26, .mv (.tmp 5), some (23, true)⟩, ⟨some 27, .bin .sub (.tmp 26) (.c (.one (.t (.int .i64 1)))), some (23, true)⟩, ⟨some 28, .idxA 1 (.tmp 25) (.tmp 27), some (23, true)⟩, ⟨some 29, .load false 1 (.tmp 28), some (23, true)⟩, ⟨some 30, .bin .leq (.tmp 24) (.tmp 29), some (23, true)⟩, ⟨some 31, .pick (.tmp 23) (.tmp 30) (.c (.one (.t (.bool false)))), none⟩]) (.cond (.tmp 31) (.seq (.region [⟨some 4, .mv (.c (.one (.t (.int .i64 12)))), none⟩]) .ret) .skip))))) (.region [⟨some 32, .bin .add (.tmp 9) (.c (.one (.t (.int .i64 1)))), none⟩, ⟨some 9, .mv (.tmp 32), none⟩]))))))) (.seq (.region [⟨some 4, .mv (.c (.one (.t (.int .i64 0)))), none⟩]) .ret))⟩
theorem k_list : cFn Tryz.prog Tryz.f169 = some c_list := by kernel_rfl
theorem list_ok (l : List Int) (n : Int) (hl : small l.length) : CallOK Tryz.prog 169 [(false, [ints l]), (false, [.int .i64 n])] (.sv (false, [.int .i64 (ascErr l n)])) := by
  refine callOK_W (callS_W (by kernel_rfl) Tryz.func169 k_list (callable_of Tryz.func169 (by kernel_rfl)) (by simp [c_list]) ?_)
  simp [c_list]
  refine loopW_count 9 l.length (fun k S => S.fr 0 = .one (.t (ints l)) ∧ S.fr 1 = .one (.t (.int .i64 n)) ∧ S.fr 7 = .one (.t (ints l)) ∧ S.fr 8 = .one (.t (.int .i64 l.length)) ∧ S.ob = noOb ∧ ∀ j, j < k → ascF l n j = 0) hl ?_ ?_ ?_
  · simp
  · rintro k S hlt hw hc ⟨h0, h1, h7, h8, hob, hp⟩
    have bad : ascF l n k ≠ 0 → ascErr l n = ascF l n k := fe_at hlt hp
    by_cases e1 : nth l k < 0
    · have := bad (by simp [ascF, e1])
      rw [show ascF l n k = 6 by simp [ascF, e1]] at this
      simp [h0, h1, h7, h8, hc, hlt, drop_nth hlt, hob, e1, this]
    by_cases e2 : n ≤ nth l k
    · have := bad (by simp [ascF, e1, e2])
      rw [show ascF l n k = 6 by simp [ascF, e1, e2]] at this
      simp [h0, h1, h7, h8, hc, hlt, drop_nth hlt, hob, e1, e2, this]
    by_cases e4 : 0 < k
    · obtain ⟨j, hj1, hj2, hj3, hj4⟩ := pred_of e4 hlt hl
      by_cases e3 : nth l k ≤ nth l j
      · have := bad (by simp [ascF, e1, e2, e3, e4, hj2])
        rw [show ascF l n k = 12 by simp [ascF, e1, e2, e3, e4, hj2]] at this
        simp [h0, h1, h7, h8, hc, hlt, drop_nth hlt, drop_nth hj3, hob, e1, e2, e3, e4, hj3, hj4, this]
      · simp [h0, h1, h7, h8, hc, hlt, drop_nth hlt, drop_nth hj3, hob, e1, e2, e3, e4, hj3, hj4, hw]
        exact lt_succ_all hp (by simp [ascF, e1, e2, e3, e4, hj2])
    · simp [h0, h1, h7, h8, hc, hlt, drop_nth hlt, hob, e1, e2, e4, hw]
      exact lt_succ_all hp (by simp [ascF, e1, e2, e4])
  · rintro S hc ⟨h0, h1, h7, h8, hob, hp⟩
    have : ascErr l n = 0 := fe_zero hp
    simp [h0, h1, h7, h8, hc, this]

def c_ascending : MFunc := ⟨39, [.tmp 4], .seq (.region [⟨some 4, .mv (.c (.one (.t (.int .i64 0)))), none⟩]) (.seq (.seq (.region [⟨some 5, .mv (.c (.one (.t (.int .i64 0)))), none⟩]) (.block 0 (.loop (.seq (.seq (.region [⟨some 6, .mv (.tmp 5), none⟩, ⟨some 7, .mv (.tmp 0), none⟩, ⟨some 8, .len (.tmp 7), none⟩, ⟨some 9, .bin .lss (.tmp 6) (.tmp 8), none⟩]) (.cond (.tmp 9) .skip (.exit 0))) (.seq (.block 1 (.seq (.seq (.region [⟨some 12, .mv (.tmp 0), none⟩, ⟨some 13, .mv (.tmp 5), none⟩, ⟨some 14, .idxA 1 (.tmp 12) (.tmp 13), none⟩, ⟨some 15, .load false 1 (.tmp 14), none⟩, ⟨some 16, .bin .lss (.tmp 15) (.c (.one (.t (.int .i64 0)))), none⟩, ⟨some 17, .mv (.tmp 16), none⟩, ⟨some 18, .mv (.tmp 0), some (17, false)⟩, ⟨some 19, .mv (.tmp 5), some (17, false)⟩, ⟨some 20, .idxA 1 (.tmp 18) (.tmp 19), some (17, false)⟩, ⟨some 21, .load false 1 (.tmp 20), some (17, false)⟩, ⟨some 22, .mv (.tmp 1), some (17, false)⟩, ⟨some 23, .bin .geq (.tmp 21) (.tmp 22), some (17, false)⟩, ⟨some 24, .pick (.tmp 17) (.c (.one (.t (.bool true)))) (.tmp 23), none⟩]) (.cond (.tmp 24) (.seq (.region [⟨some 4, .mv (.c (.one (.t (.int .i64 6)))), none⟩]) .ret) .skip)) (.seq (.draw [[], [0], [1], [2], [2], [3, 4, 2], [5, 2], [2], [2], [8, 2], [7, 9, 2], [10, 2], [6, 11, 2], [2, 12]] [⟨some 25, .mv (.tmp 5), none⟩, ⟨some 26, .bin .gtr (.tmp 25) (.c (.one (.t (.int .i64 0)))), none⟩, ⟨some 27, .mv (.tmp 26), none⟩, ⟨some 28, .mv (.tmp 0), some (27, true)⟩, ⟨some 29, .mv (.tmp 5), some (27, true)⟩, ⟨some 30, .idxA 1 (.tmp 28) (.tmp 29), some (27, true)⟩, ⟨some 31, .load false 1 (.tmp 30), some (27, true)⟩, ⟨some 32, .mv (.tmp 0), some (27, true)⟩, ⟨some 33, .mv (.tmp 5), some (27, true)⟩, ⟨some 34, .bin .sub (.tmp 33) (.c (.one (.t (.int .i64 1)))), some (27, true)⟩, ⟨some 35, .idxA 1 (.tmp 32) (.tmp 34), some (27, true)⟩, ⟨some 36, .load false 1 (.tmp 35), some (27, true)⟩, ⟨some 37, .bin .leq (.tmp 31) (.tmp 36), some (27, true)⟩, ⟨some 38, .pick (.tmp 27) (.tmp 37) (.c (.one (.t (.bool false)))), none⟩]) (.cond (.tmp 38) (.seq (.region [⟨some 4, .mv (.c (.one (.t (.int .i64 12)))), none⟩]) .ret) .skip)))) (.region [⟨some 10, .mv (.tmp 5), none⟩, ⟨some 11, .bin .add (.tmp 10) (.c (.one (.t (.int .i64 1)))), none⟩, ⟨some 5, .mv (.tmp 11), none⟩])))))) (.seq (.region [⟨some 4, .mv (.c (.one (.t (.int .i64 0)))), none⟩]) .ret))⟩
theorem k_ascending : cFn Tryz.prog Tryz.f72 = some c_ascending := by kernel_rfl
theorem ascending_ok (l : List Int) (n : Int) (hl : small l.length) : CallOK Tryz.prog 72 [(false, [ints l]), (false, [.int .i64 n])] (.sv (false, [.int .i64 (ascErr l n)])) := by
  refine callOK_W (callS_W (by kernel_rfl) Tryz.func72 k_ascending (callable_of Tryz.func72 (by kernel_rfl)) (by simp [c_ascending]) ?_)
  simp [c_ascending]
  refine loopW_count 5 l.length (fun k S => S.fr 0 = .one (.t (ints l)) ∧ S.fr 1 = .one (.t (.int .i64 n)) ∧ S.ob = noOb ∧ ∀ j, j < k → ascF l n j = 0) hl ?_ ?_ ?_
  · simp
  · rintro k S hlt hw hc ⟨h0, h1, hob, hp⟩
    have bad : ascF l n k ≠ 0 → ascErr l n = ascF l n k := fe_at hlt hp
    by_cases e1 : nth l k < 0
    · have := bad (by simp [ascF, e1])
      rw [show ascF l n k = 6 by simp [ascF, e1]] at this
      simp [dw0, dw1, dw2, dw3, h0, h1, hc, hlt, drop_nth hlt, hob, e1, this]
    by_cases e2 : n ≤ nth l k
    · have := bad (by simp [ascF, e1, e2])
      rw [show ascF l n k = 6 by simp [ascF, e1, e2]] at this
      simp [dw0, dw1, dw2, dw3, h0, h1, hc, hlt, drop_nth hlt, hob, e1, e2, this]
    by_cases e4 : 0 < k
    · obtain ⟨j, hj1, hj2, hj3, hj4⟩ := pred_of e4 hlt hl
      by_cases e3 : nth l k ≤ nth l j
      · have := bad (by simp [ascF, e1, e2, e3, e4, hj2])
        rw [show ascF l n k = 12 by simp [ascF, e1, e2, e3, e4, hj2]] at this
        simp [dw0, dw1, dw2, dw3, h0, h1, hc, hlt, drop_nth hlt, drop_nth hj3, hob, e1, e2, e3, e4, hj3, hj4, this]
        rfl
      · simp [dw0, dw1, dw2, dw3, h0, h1, hc, hlt, drop_nth hlt, drop_nth hj3, hob, e1, e2, e3, e4, hj3, hj4, hw]
        exact ⟨rfl, lt_succ_all hp (by simp [ascF, e1, e2, e3, e4, hj2])⟩
    · simp [dw0, dw1, dw2, dw3, h0, h1, hc, hlt, drop_nth hlt, hob, e1, e2, e4, hw]
      exact ⟨rfl, lt_succ_all hp (by simp [ascF, e1, e2, e4])⟩
  · rintro S hc ⟨h0, h1, hob, hp⟩
    have : ascErr l n = 0 := fe_zero hp
    simp [dw0, dw1, dw2, dw3, h0, h1, hc, this]

/-! ### Ascending lists -/
def Asc (l : List Int) : Prop := ∀ a b, a < b → b < l.length → nth l a < nth l b

theorem asc_of {l : List Int} {n : Int} (h : ascErr l n = 0) : Asc l ∧ ∀ x ∈ l, 0 ≤ x ∧ x < n := by
  have h := fe_eq h
  have h1 : ∀ j, j < l.length → 0 ≤ nth l j ∧ nth l j < n ∧ (0 < j → nth l (j - 1) < nth l j) := fun j hj => by
    have := h j hj
    simp only [ascF] at this
    split at this
    · cases this
    split at this
    · cases this
    split at this
    · cases this
    rename_i a b c
    exact ⟨by omega, by omega, fun h0 => by
      rcases Int.lt_or_le (nth l (j - 1)) (nth l j) with h | h
      · exact h
      · exact absurd ⟨h0, h⟩ c⟩
  refine ⟨fun a b hab hb => ?_, fun x hx => ?_⟩
  · induction b with
    | zero => omega
    | succ b ih =>
      have h2 := (h1 (b + 1) hb).2.2 (by omega)
      simp only [Nat.add_sub_cancel] at h2
      by_cases e : a = b
      · subst e; exact h2
      · have := ih (by omega) (by omega)
        omega
  · obtain ⟨k, hk, rfl⟩ := mem_nth hx
    exact ⟨(h1 k hk).1, (h1 k hk).2.1⟩

/-- How many elements are less: where a number would stand. -/
def bs (l : List Int) (x : Int) : Int := (l.countP (fun y => decide (y < x)) : Nat)

theorem count_at {x : Int} : ∀ {l : List Int} {i : Nat}, i ≤ l.length → (∀ k, k < i → nth l k < x) → (∀ k, i ≤ k → k < l.length → x ≤ nth l k) → l.countP (fun y => decide (y < x)) = i
  | [], 0, _, _, _ => rfl
  | [], i + 1, h, _, _ => absurd h (by simp)
  | y :: l, 0, _, _, h => by
    have h0 := h 0 (by omega) (by simp)
    have ih := count_at (x := x) (l := l) (i := 0) (by omega) (fun k hk => by omega) fun k _ hk => by
      have := h (k + 1) (by omega) (by simpa using hk)
      simpa [nth] using this
    simp [nth] at h0
    rw [List.countP_cons, ih]
    simp
    exact h0
  | y :: l, i + 1, hi, h1, h2 => by
    have h0 := h1 0 (by omega)
    have ih := count_at (x := x) (l := l) (i := i) (by simpa using hi) (fun k hk => by
      have := h1 (k + 1) (by omega)
      simpa [nth] using this) fun k hk hk' => by
      have := h2 (k + 1) (by omega) (by simpa using hk')
      simpa [nth] using this
    simp [nth] at h0
    rw [List.countP_cons, ih]
    simp [h0]

theorem asc_mem {l : List Int} {x : Int} {i : Nat} (h1 : ∀ k, k < i → nth l k < x) (h2 : ∀ k, i ≤ k → k < l.length → x ≤ nth l k) (ha : Asc l) : x ∈ l ↔ i < l.length ∧ nth l i = x := by
  constructor
  · intro hx
    obtain ⟨k, hk, he⟩ := mem_nth hx
    have h3 : i ≤ k := by
      rcases Nat.lt_or_ge k i with h | h
      · have := h1 k h
        omega
      · exact h
    refine ⟨by omega, ?_⟩
    by_cases e : i = k
    · rw [e]; exact he
    · have := ha i k (by omega) hk
      have := h2 i (by omega) (by omega)
      omega
  · rintro ⟨hi, rfl⟩
    exact nth_mem hi

def c_less : MFunc := ⟨17, [.tmp 4], .seq (.region [⟨some 4, .mv (.c (.one (.t (.bool false)))), none⟩]) (.seq (.region [⟨some 5, .mv (.tmp 0), none⟩, ⟨some 6, .call (.c (.one (.fn 168 []))) 65 [.tmp 5], none⟩, ⟨some 7, .mv (.tmp 6), none⟩, ⟨some 8, .mv (.tmp 1), some (7, true)⟩, ⟨some 9, .call (.c (.one (.fn 168 []))) 68 [.tmp 8], some (7, true)⟩, ⟨some 10, .not (.tmp 9), some (7, true)⟩, ⟨some 11, .pick (.tmp 7) (.tmp 10) (.c (.one (.t (.bool false)))), none⟩, ⟨some 12, .mv (.tmp 11), none⟩, ⟨some 13, .mv (.tmp 0), some (12, false)⟩, ⟨some 14, .mv (.tmp 1), some (12, false)⟩, ⟨some 15, .bin .lss (.tmp 13) (.tmp 14), some (12, false)⟩, ⟨some 16, .pick (.tmp 12) (.c (.one (.t (.bool true)))) (.tmp 15), none⟩, ⟨some 4, .mv (.tmp 16), none⟩]) .ret)⟩
theorem k_less : cFn Tryz.prog Tryz.f144 = some c_less := by kernel_rfl
def c_isNaN : MFunc := ⟨6, [.tmp 2], .seq (.region [⟨some 2, .mv (.c (.one (.t (.bool false)))), none⟩]) (.seq (.region [⟨some 3, .mv (.tmp 0), none⟩, ⟨some 4, .mv (.tmp 0), none⟩, ⟨some 5, .bin .neq (.tmp 3) (.tmp 4), none⟩, ⟨some 2, .mv (.tmp 5), none⟩]) .ret)⟩
theorem k_isNaN : cFn Tryz.prog Tryz.f150 = some c_isNaN := by kernel_rfl
def c_cisNaN : MFunc := ⟨6, [.tmp 2], .seq (.region [⟨some 2, .mv (.c (.one (.t (.bool false)))), none⟩]) (.seq (.region [⟨some 3, .mv (.tmp 0), none⟩, ⟨some 4, .mv (.tmp 0), none⟩, ⟨some 5, .bin .neq (.tmp 3) (.tmp 4), none⟩, ⟨some 2, .mv (.tmp 5), none⟩]) .ret)⟩
theorem k_cisNaN : cFn Tryz.prog Tryz.f168 = some c_cisNaN := by kernel_rfl
def c_bsearch : MFunc := ⟨54, [.tmp 4, .tmp 5], .seq (.region [⟨some 4, .mv (.c (.one (.t (.int .i64 0)))), none⟩, ⟨some 5, .mv (.c (.one (.t (.bool false)))), none⟩]) (.seq (.region [⟨some 10, .mv (.tmp 0), none⟩, ⟨some 11, .len (.tmp 10), none⟩, ⟨some 6, .mv (.tmp 11), none⟩]) (.seq (.region [⟨some 12, .mv (.tmp 6), none⟩, ⟨some 7, .mv (.c (.one (.t (.int .i64 0)))), none⟩, ⟨some 8, .mv (.tmp 12), none⟩]) (.seq (.block 0 (.loop (.seq (.seq (.region [⟨some 13, .mv (.tmp 7), none⟩, ⟨some 14, .mv (.tmp 8), none⟩, ⟨some 15, .bin .lss (.tmp 13) (.tmp 14), none⟩]) (.cond (.tmp 15) .skip (.exit 0))) (.block 1 (.seq (.region [⟨some 16, .mv (.tmp 7), none⟩, ⟨some 17, .mv (.tmp 8), none⟩, ⟨some 18, .bin .add (.tmp 16) (.tmp 17), none⟩, ⟨some 19, .conv .u64 (.tmp 18), none⟩, ⟨some 20, .bin .shr (.tmp 19) (.c (.one (.t (.int .u64 1)))), none⟩, ⟨some 21, .conv .i64 (.tmp 20), none⟩, ⟨some 9, .mv (.tmp 21), none⟩]) (.seq (.region [⟨some 22, .mv (.tmp 0), none⟩, ⟨some 23, .mv (.tmp 9), none⟩, ⟨some 24, .idxA 1 (.tmp 22) (.tmp 23), none⟩, ⟨some 25, .load false 1 (.tmp 24), none⟩, ⟨some 26, .mv (.tmp 1), none⟩, ⟨some 27, .call (.c (.one (.fn 144 []))) 325 [.tmp 25, .tmp 26], none⟩]) (.cond (.tmp 27) (.region [⟨some 28, .mv (.tmp 9), none⟩, ⟨some 29, .bin .add (.tmp 28) (.c (.one (.t (.int .i64 1)))), none⟩, ⟨some 7, .mv (.tmp 29), none⟩]) (.region [⟨some 30, .mv (.tmp 9), none⟩, ⟨some 8, .mv (.tmp 30), none⟩])))))))) (.seq (.region [⟨some 31, .mv (.tmp 7), none⟩, ⟨some 32, .mv (.tmp 7), none⟩, ⟨some 33, .mv (.tmp 6), none⟩, ⟨some 34, .bin .lss (.tmp 32) (.tmp 33), none⟩, ⟨some 35, .mv (.tmp 34), none⟩, ⟨some 36, .mv (.tmp 0), some (35, true)⟩, ⟨some 37, .mv (.tmp 7), some (35, true)⟩, ⟨some 38, .idxA 1 (.tmp 36) (.tmp 37), some (35, true)⟩, ⟨some 39, .load false 1 (.tmp 38), some (35, true)⟩, ⟨some 40, .mv (.tmp 1), some (35, true)⟩, ⟨some 41, .bin .eql (.tmp 39) (.tmp 40), some (35, true)⟩, ⟨some 42, .mv (.tmp 41), some (35, true)⟩, ⟨some 43, .mv (.tmp 0), some (42, false)⟩, ⟨some 44, .mv (.tmp 7), some (42, false)⟩, ⟨some 45, .idxA 1 (.tmp 43) (.tmp 44), some (42, false)⟩, ⟨some 46, .load false 1 (.tmp 45), some (42, false)⟩, ⟨some 47, .call (.c (.one (.fn 150 []))) 528 [.tmp 46], some (42, false)⟩, ⟨some 48, .mv (.tmp 47), some (42, false)⟩, ⟨some 49, .mv (.tmp 1), some (48, true)⟩, ⟨some 50, .call (.c (.one (.fn 150 []))) 531 [.tmp 49], some (48, true)⟩, ⟨some 51, .pick (.tmp 48) (.tmp 50) (.c (.one (.t (.bool false)))), some (42, false)⟩, ⟨some 52, .pick (.tmp 42) (.c (.one (.t (.bool true)))) (.tmp 51), some (35, true)⟩, ⟨some 53, .pick (.tmp 35) (.tmp 52) (.c (.one (.t (.bool false)))), none⟩, ⟨some 4, .mv (.tmp 31), none⟩, ⟨some 5, .mv (.tmp 53), none⟩]) .ret))))⟩
theorem k_bsearch : cFn Tryz.prog Tryz.f103 = some c_bsearch := by kernel_rfl
theorem isNaN_ok (x : Int) : CallOK Tryz.prog 150 [(false, [.int .i64 x])] (.sv (false, [.bool false])) := by
  refine callOK_W (callS_W (by kernel_rfl) Tryz.func150 k_isNaN (callable_of Tryz.func150 (by kernel_rfl)) (by simp [c_isNaN]) ?_)
  simp [c_isNaN]
theorem cisNaN_ok (x : Int) : CallOK Tryz.prog 168 [(false, [.int .i64 x])] (.sv (false, [.bool false])) := by
  refine callOK_W (callS_W (by kernel_rfl) Tryz.func168 k_cisNaN (callable_of Tryz.func168 (by kernel_rfl)) (by simp [c_cisNaN]) ?_)
  simp [c_cisNaN]
theorem less_ok (x y : Int) : CallOK Tryz.prog 144 [(false, [.int .i64 x]), (false, [.int .i64 y])] (.sv (false, [.bool (decide (x < y))])) := by
  refine callOK_W (callS_W (by kernel_rfl) Tryz.func144 k_less (callable_of Tryz.func144 (by kernel_rfl)) (by simp [c_less]) ?_)
  simp [c_less]
  refine callS_tree (cisNaN_ok x) ?_ ?_ ?_
  · rfl
  · rfl
  simp

theorem bsearch_ok (l : List Int) (x : Int) (hl : l.length ≤ 1000000) (ha : Asc l) : CallOK Tryz.prog 103 [(false, [ints l]), (false, [.int .i64 x])] (.tup [(false, [.int .i64 (bs l x)]), (false, [.bool (decide (x ∈ l))])]) := by
  refine callOK_W (callS_W (by kernel_rfl) Tryz.func103 k_bsearch (callable_of Tryz.func103 (by kernel_rfl)) (by simp [c_bsearch]) ?_)
  simp [c_bsearch]
  refine loopW_intro (fun S => ∃ i j : Nat, i ≤ j ∧ j ≤ l.length ∧ S.fr 0 = .one (.t (ints l)) ∧ S.fr 1 = .one (.t (.int .i64 x)) ∧ S.fr 6 = .one (.t (.int .i64 l.length)) ∧ S.fr 7 = .one (.t (.int .i64 i)) ∧ S.fr 8 = .one (.t (.int .i64 j)) ∧ S.ob = noOb ∧
      (∀ k, k < i → nth l k < x) ∧ ∀ k, j ≤ k → k < l.length → x ≤ nth l k)
    (fun S => match S.fr 7, S.fr 8 with | .one (.t (.int _ i)), .one (.t (.int _ j)) => (j - i).toNat | _, _ => 0) ?_ ?_
  · exact ⟨0, l.length, by omega, by omega, by simp, by simp, by simp, by simp, by simp, by simp, fun k hk => by omega, fun k h1 h2 => by omega⟩
  · rintro S ⟨i, j, hij, hj, h0, h1, h6, h7, h8, hob, hp, hq⟩
    by_cases hlt : i < j
    · obtain ⟨h, hh⟩ : ∃ h : Nat, h = (i + j) / 2 := ⟨_, rfl⟩
      have hh1 : i ≤ h := by omega
      have hh2 : h < j := by omega
      have hh3 : h < l.length := by omega
      have w1 : IntKind.i64.wrap ((i : Int) + j) = (i : Int) + j := by rw [wrap64_id] <;> omega
      have w2 : IntKind.u64.wrap ((i : Int) + j) = (i : Int) + j := by
        simp [IntKind.wrap, IntKind.bits, IntKind.signed]
        omega
      have w3 : ((i : Int) + j).fdiv 2 = h := by
        rw [Int.fdiv_eq_ediv_of_nonneg _ (by omega)]
        omega
      have w4 : IntKind.i64.wrap (h : Int) = h := by rw [wrap64_id] <;> omega
      have w5 : IntKind.i64.wrap ((h : Int) + 1) = ((h + 1 : Nat) : Int) := by rw [wrap64_id] <;> omega
      simp [h0, h1, h6, h7, h8, hob, hlt, w1, w2, w3, w4, IntKind.bits, hh3, drop_nth hh3]
      refine callS_tree (less_ok (nth l h) x) ?_ ?_ ?_
      · rfl
      · rfl
      have mono : ∀ k, k < l.length → (k ≤ h → nth l k ≤ nth l h) ∧ (h ≤ k → nth l h ≤ nth l k) := fun k hk => ⟨fun e => by
        rcases Nat.lt_or_eq_of_le e with e | rfl
        · exact Int.le_of_lt (ha k h e hh3)
        · exact Int.le_refl _, fun e => by
        rcases Nat.lt_or_eq_of_le e with e | rfl
        · exact Int.le_of_lt (ha h k e hk)
        · exact Int.le_refl _⟩
      by_cases e : nth l h < x
      · simp [h0, h1, h6, h7, h8, hob, hlt, e, w5]
        refine ⟨⟨h + 1, j, by omega, hj, by simp, rfl, fun k hk => ?_, hq⟩, by omega⟩
        have := (mono k (by omega)).1 (by omega)
        omega
      · simp [h0, h1, h6, h7, h8, hob, hlt, e]
        refine ⟨⟨i, h, hh1, by omega, rfl, rfl, hp, fun k h1 h2 => ?_⟩, by omega⟩
        have := (mono k h2).2 h1
        omega
    · have : i = j := by omega
      subst this
      have hc : bs l x = i := by rw [bs, count_at hj hp hq]
      have hm := asc_mem hp hq ha
      by_cases e1 : i < l.length
      · by_cases e2 : nth l i = x
        · have : x ∈ l := hm.2 ⟨e1, e2⟩
          simp [h0, h1, h6, h7, h8, hob, e1, e2, drop_nth e1, hc, this]
        · have : x ∉ l := fun h => e2 (hm.1 h).2
          simp [h0, h1, h6, h7, h8, hob, e1, e2, drop_nth e1, hc, this]
          refine callS_tree (isNaN_ok (nth l i)) ?_ ?_ ?_
          · rfl
          · rfl
          simp [h0, h1, h6, h7, h8, hob, e1, e2, drop_nth e1, hc, this]
      · have : x ∉ l := fun h => e1 (hm.1 h).1
        simp [h0, h1, h6, h7, h8, hob, e1, hc, this]
end Go.Proofs.YthcnpnogfblkcaaGreat

/- Contracts: parts of graphs (2). -/
namespace Go.Proofs.YthcnpnogfblkcaaGreat
open Abs
set_option linter.unusedSimpArgs false
set_option linter.unusedVariables false
attribute [local simp] rn0 rn1 rn2 rn3 rn4 rn5 rn6 rn7 evOp nests Arg.ev St.val St.set St.new sliceOf binInt2 binInt AV.cells rdAt St.live retOf resOf resAll treeOf treeCell treeCells treeTups untree frameOf TV.av TR.av ints edgs prs fillV splice intsOf trees V1.tree bx Gr.v Pa.v opRd opWr opNew opNewR opArgs argsRd argRd Arg.rd AV.refs V1.refs refsL dstL

abbrev tiny (n : Nat) : Prop := n ≤ 1000000
theorem tiny.small {n : Nat} (h : tiny n) : small n := Nat.le_trans h (by decide)

def c_has : MFunc := ⟨14, [.tmp 4], .seq (.region [⟨some 4, .mv (.c (.one (.t (.bool false)))), none⟩]) (.seq (.region [⟨some 8, .mv (.tmp 0), none⟩, ⟨some 9, .mv (.tmp 1), none⟩, ⟨some 10, .call (.c (.one (.fn 103 []))) 66 [.tmp 8, .tmp 9], none⟩, ⟨some 7, .mv (.tmp 10), none⟩, ⟨some 11, .extract (.tmp 7) 0, none⟩, ⟨some 12, .extract (.tmp 7) 1, none⟩, ⟨some 5, .mv (.tmp 11), none⟩, ⟨some 6, .mv (.tmp 12), none⟩]) (.seq (.region [⟨some 13, .mv (.tmp 6), none⟩, ⟨some 4, .mv (.tmp 13), none⟩]) .ret))⟩
theorem k_has : cFn Tryz.prog Tryz.f170 = some c_has := by kernel_rfl
theorem has_ok (l : List Int) (n : Int) (hl : tiny l.length) (ha : Asc l) : CallOK Tryz.prog 170 [(false, [ints l]), (false, [.int .i64 n])] (.sv (false, [.bool (decide (n ∈ l))])) := by
  refine callOK_W (callS_W (by kernel_rfl) Tryz.func170 k_has (callable_of Tryz.func170 (by kernel_rfl)) (by simp [c_has]) ?_)
  simp [c_has]
  refine callS_tree (bsearch_ok l n hl ha) ?_ ?_ ?_
  · rfl
  · rfl
  simp

def danF (g : Gr) (p : Pa) (i : Nat) : Int := if (eth g.edges (nth p.edges i).toNat).f ∈ p.nodes ∧ (eth g.edges (nth p.edges i).toNat).g ∈ p.nodes then 0 else 14
/-- The error of a part of a valid graph. -/
def partErr (g : Gr) (p : Pa) : Int :=
  if ascErr p.nodes g.nodes.length = 0 then if ascErr p.edges g.edges.length = 0 then fe (danF g p) p.edges.length else ascErr p.edges g.edges.length else ascErr p.nodes g.nodes.length

def c_part : MFunc := ⟨57, [.tmp 4], .seq (.region [⟨some 2, .box 0 25 (.tmp 0), none⟩, ⟨some 3, .box 1 63 (.tmp 1), none⟩, ⟨some 4, .mv (.c (.one (.t (.int .i64 0)))), none⟩]) (.seq (.seq (.region [⟨some 9, .fieldA 0 (.tmp 3), none⟩, ⟨some 10, .load false 1 (.tmp 9), none⟩, ⟨some 11, .fieldA 0 (.tmp 2), none⟩, ⟨some 12, .load false 1 (.tmp 11), none⟩, ⟨some 13, .len (.tmp 12), none⟩, ⟨some 14, .call (.c (.one (.fn 169 []))) 69 [.tmp 10, .tmp 13], none⟩, ⟨some 5, .mv (.tmp 14), none⟩]) (.seq (.region [⟨some 15, .mv (.tmp 5), none⟩, ⟨some 16, .bin .neq (.tmp 15) (.c (.one (.t (.int .i64 0)))), none⟩]) (.cond (.tmp 16) (.seq (.region [⟨some 17, .mv (.tmp 5), none⟩, ⟨some 4, .mv (.tmp 17), none⟩]) .ret) .skip))) (.seq (.seq (.region [⟨some 18, .fieldA 1 (.tmp 3), none⟩, ⟨some 19, .load false 1 (.tmp 18), none⟩, ⟨some 20, .fieldA 1 (.tmp 2), none⟩, ⟨some 21, .load false 1 (.tmp 20), none⟩, ⟨some 22, .len (.tmp 21), none⟩, ⟨some 23, .call (.c (.one (.fn 169 []))) 261 [.tmp 19, .tmp 22], none⟩, ⟨some 6, .mv (.tmp 23), none⟩]) (.seq (.region [⟨some 24, .mv (.tmp 6), none⟩, ⟨some 25, .bin .neq (.tmp 24) (.c (.one (.t (.int .i64 0)))), none⟩]) (.cond (.tmp 25) (.seq (.region [⟨some 26, .mv (.tmp 6), none⟩, ⟨some 4, .mv (.tmp 26), none⟩]) .ret) .skip))) (.seq (.seq (.region [⟨some 27, .fieldA 1 (.tmp 3), none⟩, ⟨some 28, .load false 1 (.tmp 27), none⟩, ⟨some 29, .len (.tmp 28), none⟩, ⟨some 30, .mv (.c (.one (.t (.int .i64 0)))), none⟩]) (.block 0 (.loop (.seq (.region [⟨some 31, .bin .lss (.tmp 30) (.tmp 29), none⟩]) (.seq (.cond (.tmp 31) .skip (.exit 0)) (.seq (.block 1 (.seq (.region [⟨some 32, .idxA 1 (.tmp 28) (.tmp 30), none⟩, ⟨some 33, .load false 1 (.tmp 32), none⟩, ⟨some 8, .mv (.tmp 33), none⟩]) (.seq (.draw [[], [0], [], [2], [], [3, 4], [5], [6], [1, 7], [8], [9, 8], [10], [11, 10], [10], [13, 10], [10], [14, 15, 10], [16, 10], [17, 10], [12, 18, 10, 10], [19, 10], [10, 20]] [⟨some 34, .fieldA 0 (.tmp 3), none⟩, ⟨some 35, .load false 1 (.tmp 34), none⟩, ⟨some 36, .fieldA 1 (.tmp 2), none⟩, ⟨some 37, .load false 1 (.tmp 36), none⟩, ⟨some 38, .mv (.tmp 8), none⟩, ⟨some 39, .idxA 3 (.tmp 37) (.tmp 38), none⟩, ⟨some 40, .fieldA 1 (.tmp 39), none⟩, ⟨some 41, .load false 1 (.tmp 40), none⟩, ⟨some 42, .call (.c (.one (.fn 170 []))) 648 [.tmp 35, .tmp 41], none⟩, ⟨some 43, .not (.tmp 42), none⟩, ⟨some 44, .mv (.tmp 43), none⟩, ⟨some 45, .fieldA 0 (.tmp 3), some (44, false)⟩, ⟨some 46, .load false 1 (.tmp 45), some (44, false)⟩, ⟨some 47, .fieldA 1 (.tmp 2), some (44, false)⟩, ⟨some 48, .load false 1 (.tmp 47), some (44, false)⟩, ⟨some 49, .mv (.tmp 8), some (44, false)⟩, ⟨some 50, .idxA 3 (.tmp 48) (.tmp 49), some (44, false)⟩, ⟨some 51, .fieldA 2 (.tmp 50), some (44, false)⟩, ⟨some 52, .load false 1 (.tmp 51), some (44, false)⟩, ⟨some 53, .call (.c (.one (.fn 170 []))) 659 [.tmp 46, .tmp 52], some (44, false)⟩, ⟨some 54, .not (.tmp 53), some (44, false)⟩, ⟨some 55, .pick (.tmp 44) (.c (.one (.t (.bool true)))) (.tmp 54), none⟩]) (.cond (.tmp 55) (.seq (.region [⟨some 4, .mv (.c (.one (.t (.int .i64 14)))), none⟩]) .ret) .skip)))) (.region [⟨some 56, .bin .add (.tmp 30) (.c (.one (.t (.int .i64 1)))), none⟩, ⟨some 30, .mv (.tmp 56), none⟩]))))))) (.seq (.region [⟨some 4, .mv (.c (.one (.t (.int .i64 0)))), none⟩]) .ret))))⟩
theorem k_part : cFn Tryz.prog Tryz.f149 = some c_part := by kernel_rfl
theorem part_ok (g : Gr) (p : Pa) (hp1 : tiny p.nodes.length) (hp2 : tiny p.edges.length) : CallOK Tryz.prog 149 [g.v, p.v] (.sv (false, [.int .i64 (partErr g p)])) := by
  refine callOK_W (callS_W (by kernel_rfl) Tryz.func149 k_part (callable_of Tryz.func149 (by kernel_rfl)) (by simp [c_part]) ?_)
  simp [c_part]
  refine callS_tree (list_ok p.nodes g.nodes.length hp1.small) ?_ ?_ ?_
  · rfl
  · rfl
  by_cases h1 : ascErr p.nodes g.nodes.length = 0
  case neg =>
    have e : partErr g p = ascErr p.nodes g.nodes.length := by simp [partErr, h1]
    simp [h1, e]
  simp [h1]
  refine callS_tree (list_ok p.edges g.edges.length hp2.small) ?_ ?_ ?_
  · rfl
  · rfl
  by_cases h2 : ascErr p.edges g.edges.length = 0
  case neg =>
    have e : partErr g p = ascErr p.edges g.edges.length := by simp [partErr, h1, h2]
    simp [h2, e]
  have e : partErr g p = fe (danF g p) p.edges.length := by simp [partErr, h1, h2]
  rw [e]
  obtain ⟨ha1, hr1⟩ := asc_of h1
  obtain ⟨ha2, hr2⟩ := asc_of h2
  simp [h2]
  refine loopW_count 30 p.edges.length (fun k S => S.fr 2 = .one (.ptr (0, 0) 0) ∧ S.fr 3 = .one (.ptr (1, 0) 0) ∧ S.fr 28 = .one (.t (ints p.edges)) ∧ S.fr 29 = .one (.t (.int .i64 p.edges.length)) ∧
    S.ob = upd (upd noOb (0, 0) (some (bx 25 (g.v.2.map .t)))) (1, 0) (some (bx 63 (p.v.2.map .t))) ∧ ∀ j, j < k → danF g p j = 0) hp2.small ?_ ?_ ?_
  · simp
  · rintro k S hlt hw hc ⟨f2, f3, f28, f29, hob, hp⟩
    have bad : danF g p k ≠ 0 → fe (danF g p) p.edges.length = danF g p k := fe_at hlt hp
    obtain ⟨q1, q2⟩ := hr2 _ (nth_mem hlt)
    obtain ⟨x, hx⟩ := Int.eq_ofNat_of_zero_le q1
    have hx2 : x < g.edges.length := by omega
    have hx3 : x * 3 < g.edges.length * 3 := by omega
    simp [dw0, dw1, dw2, dw3, f2, f3, f28, f29, hob, hc, hlt, hx, hx2, hx3, drop_nth hlt, drop_edL hx2]
    refine dCall_ok (has_ok p.nodes (eth g.edges x).f hp1 ha1) ?_ ?_ ?_
    · rfl
    · rfl
    by_cases e1 : (eth g.edges x).f ∈ p.nodes
    case neg =>
      have := bad (by simp [danF, hx, e1])
      rw [show danF g p k = 14 by simp [danF, hx, e1]] at this
      simp [dw0, dw1, dw2, dw3, f2, f3, f28, f29, hob, hc, hlt, hx, hx2, hx3, drop_edL hx2, e1, this]
      rfl
    simp [dw0, dw1, dw2, dw3, f2, f3, f28, f29, hob, hc, hlt, hx, hx2, hx3, drop_edL hx2, e1]
    refine dCall_ok (has_ok p.nodes (eth g.edges x).g hp1 ha1) ?_ ?_ ?_
    · rfl
    · rfl
    by_cases e2 : (eth g.edges x).g ∈ p.nodes
    case neg =>
      have := bad (by simp [danF, hx, e1, e2])
      rw [show danF g p k = 14 by simp [danF, hx, e1, e2]] at this
      simp [dw0, dw1, dw2, dw3, f2, f3, f28, f29, hob, hc, hlt, hx, hx2, hx3, drop_edL hx2, e1, e2, this]
      rfl
    simp [dw0, dw1, dw2, dw3, f2, f3, f28, f29, hob, hc, hlt, hx, hx2, hx3, drop_edL hx2, e1, e2, hw]
    exact ⟨rfl, lt_succ_all hp (by simp [danF, hx, e1, e2])⟩
  · rintro S hc ⟨f2, f3, f28, f29, hob, hp⟩
    have : fe (danF g p) p.edges.length = 0 := fe_zero hp
    simp [f2, f3, f28, f29, hob, hc, this]

def c_right7 : MFunc := ⟨57, [.tmp 4], .seq (.region [⟨some 2, .box 0 25 (.tmp 0), none⟩, ⟨some 3, .box 1 63 (.tmp 1), none⟩, ⟨some 4, .mv (.c (.one (.t (.int .i64 0)))), none⟩]) (.seq (.seq (.region [⟨some 9, .fieldA 0 (.tmp 3), none⟩, ⟨some 10, .load false 1 (.tmp 9), none⟩, ⟨some 11, .fieldA 0 (.tmp 2), none⟩, ⟨some 12, .load false 1 (.tmp 11), none⟩, ⟨some 13, .len (.tmp 12), none⟩, ⟨some 14, .call (.c (.one (.fn 72 []))) 69 [.tmp 10, .tmp 13], none⟩, ⟨some 5, .mv (.tmp 14), none⟩]) (.seq (.region [⟨some 15, .mv (.tmp 5), none⟩, ⟨some 16, .bin .neq (.tmp 15) (.c (.one (.t (.int .i64 0)))), none⟩]) (.cond (.tmp 16) (.seq (.region [⟨some 17, .mv (.tmp 5), none⟩, ⟨some 4, .mv (.tmp 17), none⟩]) .ret) .skip))) (.seq (.seq (.region [⟨some 18, .fieldA 1 (.tmp 3), none⟩, ⟨some 19, .load false 1 (.tmp 18), none⟩, ⟨some 20, .fieldA 1 (.tmp 2), none⟩, ⟨some 21, .load false 1 (.tmp 20), none⟩, ⟨some 22, .len (.tmp 21), none⟩, ⟨some 23, .call (.c (.one (.fn 72 []))) 261 [.tmp 19, .tmp 22], none⟩, ⟨some 6, .mv (.tmp 23), none⟩]) (.seq (.region [⟨some 24, .mv (.tmp 6), none⟩, ⟨some 25, .bin .neq (.tmp 24) (.c (.one (.t (.int .i64 0)))), none⟩]) (.cond (.tmp 25) (.seq (.region [⟨some 26, .mv (.tmp 6), none⟩, ⟨some 4, .mv (.tmp 26), none⟩]) .ret) .skip))) (.seq (.seq (.region [⟨some 7, .mv (.c (.one (.t (.int .i64 0)))), none⟩]) (.block 0 (.loop (.seq (.seq (.region [⟨some 27, .mv (.tmp 7), none⟩, ⟨some 28, .fieldA 1 (.tmp 3), none⟩, ⟨some 29, .load false 1 (.tmp 28), none⟩, ⟨some 30, .len (.tmp 29), none⟩, ⟨some 31, .bin .lss (.tmp 27) (.tmp 30), none⟩]) (.cond (.tmp 31) .skip (.exit 0))) (.seq (.block 1 (.seq (.draw [[], [0], [], [2], [], [3, 4], [5], [1, 6], [7], [], [9, 8, 0, 1, 2, 3, 4, 5, 6, 7, 8, 9]] [⟨some 34, .fieldA 1 (.tmp 2), none⟩, ⟨some 35, .load false 1 (.tmp 34), none⟩, ⟨some 36, .fieldA 1 (.tmp 3), none⟩, ⟨some 37, .load false 1 (.tmp 36), none⟩, ⟨some 38, .mv (.tmp 7), none⟩, ⟨some 39, .idxA 1 (.tmp 37) (.tmp 38), none⟩, ⟨some 40, .load false 1 (.tmp 39), none⟩, ⟨some 41, .idxA 3 (.tmp 35) (.tmp 40), none⟩, ⟨some 42, .load true 3 (.tmp 41), none⟩, ⟨some 8, .alloc 649 76 [.t (.int .i64 0), .t (.int .i64 0), .t (.int .i64 0)], none⟩, ⟨none, .store 3 (.tmp 8) (.tmp 42), none⟩]) (.seq (.region [⟨some 43, .fieldA 0 (.tmp 3), none⟩, ⟨some 44, .load false 1 (.tmp 43), none⟩, ⟨some 45, .fieldA 1 (.tmp 8), none⟩, ⟨some 46, .load false 1 (.tmp 45), none⟩, ⟨some 47, .call (.c (.one (.fn 73 []))) 708 [.tmp 44, .tmp 46], none⟩, ⟨some 48, .not (.tmp 47), none⟩, ⟨some 49, .mv (.tmp 48), none⟩, ⟨some 50, .fieldA 0 (.tmp 3), some (49, false)⟩, ⟨some 51, .load false 1 (.tmp 50), some (49, false)⟩, ⟨some 52, .fieldA 2 (.tmp 8), some (49, false)⟩, ⟨some 53, .load false 1 (.tmp 52), some (49, false)⟩, ⟨some 54, .call (.c (.one (.fn 73 []))) 715 [.tmp 51, .tmp 53], some (49, false)⟩, ⟨some 55, .not (.tmp 54), some (49, false)⟩, ⟨some 56, .pick (.tmp 49) (.c (.one (.t (.bool true)))) (.tmp 55), none⟩]) (.cond (.tmp 56) (.seq (.region [⟨some 4, .mv (.c (.one (.t (.int .i64 14)))), none⟩]) .ret) .skip)))) (.region [⟨some 32, .mv (.tmp 7), none⟩, ⟨some 33, .bin .add (.tmp 32) (.c (.one (.t (.int .i64 1)))), none⟩, ⟨some 7, .mv (.tmp 33), none⟩])))))) (.seq (.region [⟨some 4, .mv (.c (.one (.t (.int .i64 0)))), none⟩]) .ret))))⟩
theorem k_right7 : cFn Tryz.prog Tryz.f33 = some c_right7 := by kernel_rfl
theorem right7_ok (g : Gr) (p : Pa) (hp1 : tiny p.nodes.length) (hp2 : tiny p.edges.length) : CallOK Tryz.prog 33 [g.v, p.v] (.sv (false, [.int .i64 (partErr g p)])) := by
  refine callOK_W (callS_W (by kernel_rfl) Tryz.func33 k_right7 (callable_of Tryz.func33 (by kernel_rfl)) (by simp [c_right7]) ?_)
  simp [c_right7]
  refine callS_tree (ascending_ok p.nodes g.nodes.length hp1.small) ?_ ?_ ?_
  · rfl
  · rfl
  by_cases h1 : ascErr p.nodes g.nodes.length = 0
  case neg =>
    have e : partErr g p = ascErr p.nodes g.nodes.length := by simp [partErr, h1]
    simp [h1, e]
  simp [h1]
  refine callS_tree (ascending_ok p.edges g.edges.length hp2.small) ?_ ?_ ?_
  · rfl
  · rfl
  by_cases h2 : ascErr p.edges g.edges.length = 0
  case neg =>
    have e : partErr g p = ascErr p.edges g.edges.length := by simp [partErr, h1, h2]
    simp [h2, e]
  have e : partErr g p = fe (danF g p) p.edges.length := by simp [partErr, h1, h2]
  rw [e]
  obtain ⟨ha1, hr1⟩ := asc_of h1
  obtain ⟨ha2, hr2⟩ := asc_of h2
  simp [h2]
  refine loopW_count 7 p.edges.length (fun k S => S.fr 2 = .one (.ptr (0, 0) 0) ∧ S.fr 3 = .one (.ptr (1, 0) 0) ∧
    S.ob (0, 0) = some (bx 25 (g.v.2.map .t)) ∧ S.ob (1, 0) = some (bx 63 (p.v.2.map .t)) ∧ ∀ j, j < k → danF g p j = 0) hp2.small ?_ ?_ ?_
  · simp
  · rintro k S hlt hw hc ⟨f2, f3, hob, hob1, hp⟩
    have bad : danF g p k ≠ 0 → fe (danF g p) p.edges.length = danF g p k := fe_at hlt hp
    obtain ⟨q1, q2⟩ := hr2 _ (nth_mem hlt)
    obtain ⟨x, hx⟩ := Int.eq_ofNat_of_zero_le q1
    have hx2 : x < g.edges.length := by omega
    have hx3 : x * 3 < g.edges.length * 3 := by omega
    simp [dw0, dw1, dw2, dw3, f2, f3, hob, hob1, hc, hlt, hx, hx2, hx3, drop_nth hlt, drop_edL hx2]
    refine ⟨rfl, ?_⟩
    refine callS_tree (has07_ok p.nodes (eth g.edges x).f hp1.small) ?_ ?_ ?_
    · simp [argTrees, argTree]
    · rfl
    by_cases e1 : (eth g.edges x).f ∈ p.nodes
    case neg =>
      have := bad (by simp [danF, hx, e1])
      rw [show danF g p k = 14 by simp [danF, hx, e1]] at this
      simp [f2, f3, hob, hob1, hc, hx, e1, this]
    simp [f2, f3, hob, hob1, hc, hx, e1]
    refine callS_tree (has07_ok p.nodes (eth g.edges x).g hp1.small) ?_ ?_ ?_
    · simp [argTrees, argTree]
    · rfl
    by_cases e2 : (eth g.edges x).g ∈ p.nodes
    case neg =>
      have := bad (by simp [danF, hx, e1, e2])
      rw [show danF g p k = 14 by simp [danF, hx, e1, e2]] at this
      simp [f2, f3, hob, hob1, hc, hx, e1, e2, this]
    simp [f2, f3, hob, hob1, hc, hx, e1, e2, hw]
    exact lt_succ_all hp (by simp [danF, hx, e1, e2])
  · rintro S hc ⟨f2, f3, hob, hob1, hp⟩
    have : fe (danF g p) p.edges.length = 0 := fe_zero hp
    simp [f2, f3, hob, hob1, hc, this]

def tinyG (g : Gr) : Prop := tiny g.nodes.length ∧ tiny g.edges.length
def tinyP (p : Pa) : Prop := tiny p.nodes.length ∧ tiny p.edges.length

/-- The error of a graph and a part. -/
def subErr (g : Gr) (p : Pa) : Int := if gErr g = 0 then partErr g p else gErr g

def c_svalid : MFunc := ⟨14, [.tmp 4], .seq (.region [⟨some 2, .box 0 25 (.tmp 0), none⟩, ⟨some 3, .box 1 63 (.tmp 1), none⟩, ⟨some 4, .mv (.c (.one (.t (.int .i64 0)))), none⟩]) (.seq (.seq (.region [⟨some 6, .load true 2 (.tmp 2), none⟩, ⟨some 7, .call (.c (.one (.fn 82 []))) 65 [.tmp 6], none⟩, ⟨some 5, .mv (.tmp 7), none⟩]) (.seq (.region [⟨some 8, .mv (.tmp 5), none⟩, ⟨some 9, .bin .neq (.tmp 8) (.c (.one (.t (.int .i64 0)))), none⟩]) (.cond (.tmp 9) (.seq (.region [⟨some 10, .mv (.tmp 5), none⟩, ⟨some 4, .mv (.tmp 10), none⟩]) .ret) .skip))) (.seq (.region [⟨some 11, .load true 2 (.tmp 2), none⟩, ⟨some 12, .load true 2 (.tmp 3), none⟩, ⟨some 13, .call (.c (.one (.fn 149 []))) 258 [.tmp 11, .tmp 12], none⟩, ⟨some 4, .mv (.tmp 13), none⟩]) .ret))⟩
theorem k_svalid : cFn Tryz.prog Tryz.f102 = some c_svalid := by kernel_rfl
theorem svalid_ok (g : Gr) (p : Pa) (hg : tinyG g) (hp : tinyP p) : CallOK Tryz.prog 102 [g.v, p.v] (.sv (false, [.int .i64 (subErr g p)])) := by
  refine callOK_W (callS_W (by kernel_rfl) Tryz.func102 k_svalid (callable_of Tryz.func102 (by kernel_rfl)) (by simp [c_svalid]) ?_)
  simp [c_svalid]
  refine callS_tree (gvalid_ok g hg.1.small hg.2.small) ?_ ?_ ?_
  · rfl
  · rfl
  by_cases h1 : gErr g = 0
  case neg => simp [h1, subErr]
  simp [h1, subErr]
  refine callS_tree (part_ok g p hp.1 hp.2) ?_ ?_ ?_
  · rfl
  · rfl
  simp

def c_rvalid7 : MFunc := ⟨14, [.tmp 4], .seq (.region [⟨some 2, .box 0 25 (.tmp 0), none⟩, ⟨some 3, .box 1 63 (.tmp 1), none⟩, ⟨some 4, .mv (.c (.one (.t (.int .i64 0)))), none⟩]) (.seq (.seq (.region [⟨some 6, .load true 2 (.tmp 2), none⟩, ⟨some 7, .call (.c (.one (.fn 87 []))) 65 [.tmp 6], none⟩, ⟨some 5, .mv (.tmp 7), none⟩]) (.seq (.region [⟨some 8, .mv (.tmp 5), none⟩, ⟨some 9, .bin .neq (.tmp 8) (.c (.one (.t (.int .i64 0)))), none⟩]) (.cond (.tmp 9) (.seq (.region [⟨some 10, .mv (.tmp 5), none⟩, ⟨some 4, .mv (.tmp 10), none⟩]) .ret) .skip))) (.seq (.region [⟨some 11, .load true 2 (.tmp 2), none⟩, ⟨some 12, .load true 2 (.tmp 3), none⟩, ⟨some 13, .call (.c (.one (.fn 33 []))) 258 [.tmp 11, .tmp 12], none⟩, ⟨some 4, .mv (.tmp 13), none⟩]) .ret))⟩
theorem k_rvalid7 : cFn Tryz.prog Tryz.f106 = some c_rvalid7 := by kernel_rfl
theorem rvalid7_ok (g : Gr) (p : Pa) (hg : tinyG g) (hp : tinyP p) : CallOK Tryz.prog 106 [g.v, p.v] (.sv (false, [.int .i64 (subErr g p)])) := by
  refine callOK_W (callS_W (by kernel_rfl) Tryz.func106 k_rvalid7 (callable_of Tryz.func106 (by kernel_rfl)) (by simp [c_rvalid7]) ?_)
  simp [c_rvalid7]
  refine callS_tree (rvalid_ok g hg.1.small hg.2.small) ?_ ?_ ?_
  · rfl
  · rfl
  by_cases h1 : gErr g = 0
  case neg => simp [h1, subErr]
  simp [h1, subErr]
  refine callS_tree (right7_ok g p hp.1 hp.2) ?_ ?_ ?_
  · rfl
  · rfl
  simp
end Go.Proofs.YthcnpnogfblkcaaGreat

/- Contracts: morphisms. -/
namespace Go.Proofs.YthcnpnogfblkcaaGreat
open Abs
set_option linter.unusedSimpArgs false
set_option linter.unusedVariables false
attribute [local simp] rn0 rn1 rn2 rn3 rn4 rn5 rn6 rn7 evOp nests Arg.ev St.val St.set St.new sliceOf binInt2 binInt AV.cells rdAt St.live retOf resOf resAll treeOf treeCell treeCells treeTups untree frameOf TV.av TR.av ints edgs prs fillV splice intsOf trees V1.tree bx Gr.v Pa.v opRd opWr opNew opNewR opArgs argsRd argRd Arg.rd AV.refs V1.refs refsL dstL

structure GrOk (g : Gr) : Prop where
  n : g.nodes.length ≤ 40
  e : g.edges.length ≤ 80
  kinds : ∀ x ∈ g.nodes, 0 ≤ x ∧ x ≤ 99
  edges : ∀ e ∈ g.edges, 0 ≤ e.t ∧ e.t ≤ 99 ∧ 0 ≤ e.f ∧ e.f < g.nodes.length ∧ 0 ≤ e.g ∧ e.g < g.nodes.length

theorem gErr_ok {g : Gr} (h : gErr g = 0) : GrOk g := by
  unfold gErr at h
  split at h
  · cases h
  rename_i h0
  split at h
  · cases h
  rename_i h1
  split at h
  · cases h
  rename_i h2
  have h1 : nBad g.nodes = false := by simpa using h1
  have h2 : eBad g.nodes.length g.edges = false := by simpa using h2
  rw [nBad, List.any_eq_false] at h1
  rw [eBad, List.any_eq_false] at h2
  refine ⟨by omega, by omega, fun x hx => ?_, fun e he => ?_⟩
  · have := h1 x hx
    simpa [within] using this
  · have := h2 e he
    simp [eOk, within] at this
    omega

def mnF (a b : Gr) (m : Pa) (i : Nat) : Int := if nth m.nodes i < 0 then 6 else if (b.nodes.length : Int) ≤ nth m.nodes i then 6 else if nth b.nodes (nth m.nodes i).toNat = nth a.nodes i then 0 else 13
def meF (a b : Gr) (m : Pa) (i : Nat) : Int := if nth m.edges i < 0 then 6 else if (b.edges.length : Int) ≤ nth m.edges i then 6 else
  if (eth a.edges i).t = (eth b.edges (nth m.edges i).toNat).t then
    if nth m.nodes (eth a.edges i).f.toNat = (eth b.edges (nth m.edges i).toNat).f then if nth m.nodes (eth a.edges i).g.toNat = (eth b.edges (nth m.edges i).toNat).g then 0 else 11 else 11
  else 13
/-- The error of a morphism. -/
def morErr (a b : Gr) (m : Pa) : Int :=
  if gErr a = 0 then if gErr b = 0 then if (m.nodes.length : Int) = a.nodes.length ∧ (m.edges.length : Int) = a.edges.length then
    if fe (mnF a b m) m.nodes.length = 0 then fe (meF a b m) m.edges.length else fe (mnF a b m) m.nodes.length
  else 20 else gErr b else gErr a

def c_mvalid : MFunc := ⟨123, [.tmp 6], .seq (.region [⟨some 3, .box 0 25 (.tmp 0), none⟩, ⟨some 4, .box 1 25 (.tmp 1), none⟩, ⟨some 5, .box 2 27 (.tmp 2), none⟩, ⟨some 6, .mv (.c (.one (.t (.int .i64 0)))), none⟩]) (.seq (.seq (.region [⟨some 15, .load true 2 (.tmp 3), none⟩, ⟨some 16, .call (.c (.one (.fn 82 []))) 65 [.tmp 15], none⟩, ⟨some 7, .mv (.tmp 16), none⟩]) (.seq (.region [⟨some 17, .mv (.tmp 7), none⟩, ⟨some 18, .bin .neq (.tmp 17) (.c (.one (.t (.int .i64 0)))), none⟩]) (.cond (.tmp 18) (.seq (.region [⟨some 19, .mv (.tmp 7), none⟩, ⟨some 6, .mv (.tmp 19), none⟩]) .ret) .skip))) (.seq (.seq (.region [⟨some 20, .load true 2 (.tmp 4), none⟩, ⟨some 21, .call (.c (.one (.fn 82 []))) 257 [.tmp 20], none⟩, ⟨some 8, .mv (.tmp 21), none⟩]) (.seq (.region [⟨some 22, .mv (.tmp 8), none⟩, ⟨some 23, .bin .neq (.tmp 22) (.c (.one (.t (.int .i64 0)))), none⟩]) (.cond (.tmp 23) (.seq (.region [⟨some 24, .mv (.tmp 8), none⟩, ⟨some 6, .mv (.tmp 24), none⟩]) .ret) .skip))) (.seq (.seq (.region [⟨some 25, .fieldA 0 (.tmp 5), none⟩, ⟨some 26, .load false 1 (.tmp 25), none⟩, ⟨some 27, .len (.tmp 26), none⟩, ⟨some 28, .fieldA 0 (.tmp 3), none⟩, ⟨some 29, .load false 1 (.tmp 28), none⟩, ⟨some 30, .len (.tmp 29), none⟩, ⟨some 31, .bin .neq (.tmp 27) (.tmp 30), none⟩, ⟨some 32, .mv (.tmp 31), none⟩, ⟨some 33, .fieldA 1 (.tmp 5), some (32, false)⟩, ⟨some 34, .load false 1 (.tmp 33), some (32, false)⟩, ⟨some 35, .len (.tmp 34), some (32, false)⟩, ⟨some 36, .fieldA 1 (.tmp 3), some (32, false)⟩, ⟨some 37, .load false 1 (.tmp 36), some (32, false)⟩, ⟨some 38, .len (.tmp 37), some (32, false)⟩, ⟨some 39, .bin .neq (.tmp 35) (.tmp 38), some (32, false)⟩, ⟨some 40, .pick (.tmp 32) (.c (.one (.t (.bool true)))) (.tmp 39), none⟩]) (.cond (.tmp 40) (.seq (.region [⟨some 6, .mv (.c (.one (.t (.int .i64 20)))), none⟩]) .ret) .skip)) (.seq (.seq (.region [⟨some 41, .fieldA 0 (.tmp 5), none⟩, ⟨some 42, .load false 1 (.tmp 41), none⟩, ⟨some 43, .len (.tmp 42), none⟩, ⟨some 44, .mv (.c (.one (.t (.int .i64 0)))), none⟩]) (.block 0 (.loop (.seq (.region [⟨some 45, .bin .lss (.tmp 44) (.tmp 43), none⟩]) (.seq (.cond (.tmp 45) .skip (.exit 0)) (.seq (.block 1 (.seq (.region [⟨some 46, .mv (.tmp 44), none⟩, ⟨some 47, .idxA 1 (.tmp 42) (.tmp 44), none⟩, ⟨some 48, .load false 1 (.tmp 47), none⟩, ⟨some 9, .mv (.tmp 46), none⟩, ⟨some 10, .mv (.tmp 48), none⟩]) (.seq (.seq (.region [⟨some 49, .mv (.tmp 10), none⟩, ⟨some 50, .bin .lss (.tmp 49) (.c (.one (.t (.int .i64 0)))), none⟩, ⟨some 51, .mv (.tmp 50), none⟩, ⟨some 52, .mv (.tmp 10), some (51, false)⟩, ⟨some 53, .fieldA 0 (.tmp 4), some (51, false)⟩, ⟨some 54, .load false 1 (.tmp 53), some (51, false)⟩, ⟨some 55, .len (.tmp 54), some (51, false)⟩, ⟨some 56, .bin .geq (.tmp 52) (.tmp 55), some (51, false)⟩, ⟨some 57, .pick (.tmp 51) (.c (.one (.t (.bool true)))) (.tmp 56), none⟩]) (.cond (.tmp 57) (.seq (.region [⟨some 6, .mv (.c (.one (.t (.int .i64 6)))), none⟩]) .ret) .skip)) (.seq (.draw [[], [0], [], [1, 2], [3], [], [5], [], [6, 7], [8], [4, 9]] [⟨some 58, .fieldA 0 (.tmp 4), none⟩, ⟨some 59, .load false 1 (.tmp 58), none⟩, ⟨some 60, .mv (.tmp 10), none⟩, ⟨some 61, .idxA 1 (.tmp 59) (.tmp 60), none⟩, ⟨some 62, .load false 1 (.tmp 61), none⟩, ⟨some 63, .fieldA 0 (.tmp 3), none⟩, ⟨some 64, .load false 1 (.tmp 63), none⟩, ⟨some 65, .mv (.tmp 9), none⟩, ⟨some 66, .idxA 1 (.tmp 64) (.tmp 65), none⟩, ⟨some 67, .load false 1 (.tmp 66), none⟩, ⟨some 68, .bin .neq (.tmp 62) (.tmp 67), none⟩]) (.cond (.tmp 68) (.seq (.region [⟨some 6, .mv (.c (.one (.t (.int .i64 13)))), none⟩]) .ret) .skip))))) (.region [⟨some 69, .bin .add (.tmp 44) (.c (.one (.t (.int .i64 1)))), none⟩, ⟨some 44, .mv (.tmp 69), none⟩]))))))) (.seq (.seq (.region [⟨some 70, .fieldA 1 (.tmp 5), none⟩, ⟨some 71, .load false 1 (.tmp 70), none⟩, ⟨some 72, .len (.tmp 71), none⟩, ⟨some 73, .mv (.c (.one (.t (.int .i64 0)))), none⟩]) (.block 2 (.loop (.seq (.region [⟨some 74, .bin .lss (.tmp 73) (.tmp 72), none⟩]) (.seq (.cond (.tmp 74) .skip (.exit 2)) (.seq (.block 3 (.seq (.region [⟨some 75, .mv (.tmp 73), none⟩, ⟨some 76, .idxA 1 (.tmp 71) (.tmp 73), none⟩, ⟨some 77, .load false 1 (.tmp 76), none⟩, ⟨some 11, .mv (.tmp 75), none⟩, ⟨some 12, .mv (.tmp 77), none⟩]) (.seq (.seq (.region [⟨some 78, .mv (.tmp 12), none⟩, ⟨some 79, .bin .lss (.tmp 78) (.c (.one (.t (.int .i64 0)))), none⟩, ⟨some 80, .mv (.tmp 79), none⟩, ⟨some 81, .mv (.tmp 12), some (80, false)⟩, ⟨some 82, .fieldA 1 (.tmp 4), some (80, false)⟩, ⟨some 83, .load false 1 (.tmp 82), some (80, false)⟩, ⟨some 84, .len (.tmp 83), some (80, false)⟩, ⟨some 85, .bin .geq (.tmp 81) (.tmp 84), some (80, false)⟩, ⟨some 86, .pick (.tmp 80) (.c (.one (.t (.bool true)))) (.tmp 85), none⟩]) (.cond (.tmp 86) (.seq (.region [⟨some 6, .mv (.c (.one (.t (.int .i64 6)))), none⟩]) .ret) .skip)) (.seq (.draw [[], [0], [], [1, 2], [3], [], [5], [], [6, 7], [8], [], [], [10, 4, 0, 1, 2, 3, 4, 10, 11], [11, 9, 12, 0, 1, 2, 3, 4, 5, 6, 7, 8, 9, 10, 11, 12]] [⟨some 87, .fieldA 1 (.tmp 3), none⟩, ⟨some 88, .load false 1 (.tmp 87), none⟩, ⟨some 89, .mv (.tmp 11), none⟩, ⟨some 90, .idxA 3 (.tmp 88) (.tmp 89), none⟩, ⟨some 91, .load true 3 (.tmp 90), none⟩, ⟨some 92, .fieldA 1 (.tmp 4), none⟩, ⟨some 93, .load false 1 (.tmp 92), none⟩, ⟨some 94, .mv (.tmp 12), none⟩, ⟨some 95, .idxA 3 (.tmp 93) (.tmp 94), none⟩, ⟨some 96, .load true 3 (.tmp 95), none⟩, ⟨some 13, .alloc 1418 76 [.t (.int .i64 0), .t (.int .i64 0), .t (.int .i64 0)], none⟩, ⟨some 14, .alloc 1419 76 [.t (.int .i64 0), .t (.int .i64 0), .t (.int .i64 0)], none⟩, ⟨none, .store 3 (.tmp 13) (.tmp 91), none⟩, ⟨none, .store 3 (.tmp 14) (.tmp 96), none⟩]) (.seq (.seq (.region [⟨some 97, .fieldA 0 (.tmp 13), none⟩, ⟨some 98, .load false 1 (.tmp 97), none⟩, ⟨some 99, .fieldA 0 (.tmp 14), none⟩, ⟨some 100, .load false 1 (.tmp 99), none⟩, ⟨some 101, .bin .neq (.tmp 98) (.tmp 100), none⟩]) (.cond (.tmp 101) (.seq (.region [⟨some 6, .mv (.c (.one (.t (.int .i64 13)))), none⟩]) .ret) .skip)) (.seq (.draw [[], [0], [], [2], [1, 3], [4], [], [6], [5, 7], [8], [9], [10, 9], [9], [12, 9], [11, 13, 9], [14, 9], [9], [16, 9], [15, 17, 9], [9, 18]] [⟨some 102, .fieldA 0 (.tmp 5), none⟩, ⟨some 103, .load false 1 (.tmp 102), none⟩, ⟨some 104, .fieldA 1 (.tmp 13), none⟩, ⟨some 105, .load false 1 (.tmp 104), none⟩, ⟨some 106, .idxA 1 (.tmp 103) (.tmp 105), none⟩, ⟨some 107, .load false 1 (.tmp 106), none⟩, ⟨some 108, .fieldA 1 (.tmp 14), none⟩, ⟨some 109, .load false 1 (.tmp 108), none⟩, ⟨some 110, .bin .neq (.tmp 107) (.tmp 109), none⟩, ⟨some 111, .mv (.tmp 110), none⟩, ⟨some 112, .fieldA 0 (.tmp 5), some (111, false)⟩, ⟨some 113, .load false 1 (.tmp 112), some (111, false)⟩, ⟨some 114, .fieldA 2 (.tmp 13), some (111, false)⟩, ⟨some 115, .load false 1 (.tmp 114), some (111, false)⟩, ⟨some 116, .idxA 1 (.tmp 113) (.tmp 115), some (111, false)⟩, ⟨some 117, .load false 1 (.tmp 116), some (111, false)⟩, ⟨some 118, .fieldA 2 (.tmp 14), some (111, false)⟩, ⟨some 119, .load false 1 (.tmp 118), some (111, false)⟩, ⟨some 120, .bin .neq (.tmp 117) (.tmp 119), some (111, false)⟩, ⟨some 121, .pick (.tmp 111) (.c (.one (.t (.bool true)))) (.tmp 120), none⟩]) (.cond (.tmp 121) (.seq (.region [⟨some 6, .mv (.c (.one (.t (.int .i64 11)))), none⟩]) .ret) .skip))))))) (.region [⟨some 122, .bin .add (.tmp 73) (.c (.one (.t (.int .i64 1)))), none⟩, ⟨some 73, .mv (.tmp 122), none⟩]))))))) (.seq (.region [⟨some 6, .mv (.c (.one (.t (.int .i64 0)))), none⟩]) .ret))))))⟩
theorem k_mvalid : cFn Tryz.prog Tryz.f41 = some c_mvalid := by kernel_rfl
theorem mvalid_ok (a b : Gr) (m : Pa) (ha : tinyG a) (hb : tinyG b) (hm : tinyP m) : CallOK Tryz.prog 41 [a.v, b.v, m.v] (.sv (false, [.int .i64 (morErr a b m)])) := by
  refine callOK_W (callS_W (by kernel_rfl) Tryz.func41 k_mvalid (callable_of Tryz.func41 (by kernel_rfl)) (by simp [c_mvalid]) ?_)
  simp [c_mvalid]
  refine callS_tree (gvalid_ok a ha.1.small ha.2.small) ?_ ?_ ?_
  · rfl
  · rfl
  by_cases h1 : gErr a = 0
  case neg => simp [h1, morErr]
  simp [h1]
  refine callS_tree (gvalid_ok b hb.1.small hb.2.small) ?_ ?_ ?_
  · rfl
  · rfl
  by_cases h2 : gErr b = 0
  case neg => simp [h1, h2, morErr]
  by_cases h3 : (m.nodes.length : Int) = a.nodes.length
  case neg => simp [h1, h2, h3, morErr]
  by_cases h4 : (m.edges.length : Int) = a.edges.length
  case neg => simp [h1, h2, h3, h4, morErr]
  simp [h2, h3, h4]
  have e0 : morErr a b m = if fe (mnF a b m) m.nodes.length = 0 then fe (meF a b m) m.edges.length else fe (mnF a b m) m.nodes.length := by simp [morErr, h1, h2, h3, h4]
  have ga := gErr_ok h1
  have gb := gErr_ok h2
  have l3 : m.nodes.length = a.nodes.length := by omega
  have l4 : m.edges.length = a.edges.length := by omega
  refine loopW_count 44 m.nodes.length (fun k S => S.fr 3 = .one (.ptr (0, 0) 0) ∧ S.fr 4 = .one (.ptr (1, 0) 0) ∧ S.fr 5 = .one (.ptr (2, 0) 0) ∧ S.fr 42 = .one (.t (ints m.nodes)) ∧ S.fr 43 = .one (.t (.int .i64 m.nodes.length)) ∧
    S.ob (0, 0) = some (bx 25 (a.v.2.map .t)) ∧ S.ob (1, 0) = some (bx 25 (b.v.2.map .t)) ∧ S.ob (2, 0) = some (bx 27 (m.v.2.map .t)) ∧ ∀ j, j < k → mnF a b m j = 0) hm.1.small ?_ ?_ ?_
  · simp [h3]
  · rintro k S hlt hw hc ⟨f3, f4, f5, f42, f43, o0, o1, o2, hp⟩
    have bad : mnF a b m k ≠ 0 → morErr a b m = mnF a b m k := fun h => by
      have := fe_at (n := m.nodes.length) hlt hp h
      rw [e0, this, if_neg h]
    have hlt2 : k < a.nodes.length := by omega
    by_cases e1 : nth m.nodes k < 0
    · have := bad (by simp [mnF, e1])
      rw [show mnF a b m k = 6 by simp [mnF, e1]] at this
      simp [f3, f4, f5, f42, f43, o0, o1, o2, hc, hlt, drop_nth hlt, e1, this]
    by_cases e2 : (b.nodes.length : Int) ≤ nth m.nodes k
    · have := bad (by simp [mnF, e1, e2])
      rw [show mnF a b m k = 6 by simp [mnF, e1, e2]] at this
      simp [f3, f4, f5, f42, f43, o0, o1, o2, hc, hlt, drop_nth hlt, e1, e2, this]
    obtain ⟨x, hx⟩ := Int.eq_ofNat_of_zero_le (show 0 ≤ nth m.nodes k by omega)
    have hx2 : x < b.nodes.length := by omega
    have e2' : ¬ b.nodes.length ≤ x := by omega
    by_cases e3 : nth b.nodes x = nth a.nodes k
    case neg =>
      have := bad (by simp [mnF, natNeg, e2', hx, e3])
      rw [show mnF a b m k = 13 by simp [mnF, natNeg, e2', hx, e3]] at this
      simp [dw0, dw1, dw2, dw3, f3, f4, f5, f42, f43, o0, o1, o2, hc, hlt, hlt2, hx, hx2, e2', drop_nth hlt, drop_nth hx2, drop_nth hlt2, e3, this]
      rfl
    simp [dw0, dw1, dw2, dw3, f3, f4, f5, f42, f43, o0, o1, o2, hc, hlt, hlt2, hx, hx2, e2', drop_nth hlt, drop_nth hx2, drop_nth hlt2, e3, hw]
    exact ⟨rfl, lt_succ_all hp (by simp [mnF, natNeg, e2', hx, e3])⟩
  · rintro S hc ⟨f3, f4, f5, f42, f43, o0, o1, o2, hp⟩
    rw [fe_zero hp, if_pos rfl] at e0
    simp [f3, f4, f5, f42, f43, o0, o1, o2, hc]
    refine loopW_count 73 m.edges.length (fun k S => S.fr 3 = .one (.ptr (0, 0) 0) ∧ S.fr 4 = .one (.ptr (1, 0) 0) ∧ S.fr 5 = .one (.ptr (2, 0) 0) ∧ S.fr 71 = .one (.t (ints m.edges)) ∧ S.fr 72 = .one (.t (.int .i64 m.edges.length)) ∧
      S.ob (0, 0) = some (bx 25 (a.v.2.map .t)) ∧ S.ob (1, 0) = some (bx 25 (b.v.2.map .t)) ∧ S.ob (2, 0) = some (bx 27 (m.v.2.map .t)) ∧ ∀ j, j < k → meF a b m j = 0) hm.2.small ?_ ?_ ?_
    · simp [f3, f4, f5, o0, o1, o2]
    · rintro k S hlt hw hc ⟨f3, f4, f5, f71, f72, o0, o1, o2, hp⟩
      have bad : meF a b m k ≠ 0 → morErr a b m = meF a b m k := fun h => by
        have := fe_at (n := m.edges.length) hlt hp h
        rw [e0, this]
      have hlt2 : k < a.edges.length := by omega
      have hlt3 : k * 3 < a.edges.length * 3 := by omega
      by_cases e1 : nth m.edges k < 0
      · have := bad (by simp [meF, e1])
        rw [show meF a b m k = 6 by simp [meF, e1]] at this
        simp [f3, f4, f5, f71, f72, o0, o1, o2, hc, hlt, drop_nth hlt, e1, this]
      by_cases e2 : (b.edges.length : Int) ≤ nth m.edges k
      · have := bad (by simp [meF, e1, e2])
        rw [show meF a b m k = 6 by simp [meF, e1, e2]] at this
        simp [f3, f4, f5, f71, f72, o0, o1, o2, hc, hlt, drop_nth hlt, e1, e2, this]
      obtain ⟨x, hx⟩ := Int.eq_ofNat_of_zero_le (show 0 ≤ nth m.edges k by omega)
      have hx2 : x < b.edges.length := by omega
      have hx3 : x * 3 < b.edges.length * 3 := by omega
      have e2' : ¬ b.edges.length ≤ x := by omega
      obtain ⟨_, _, q1, q2, q3, q4⟩ := ga.edges _ (eth_mem hlt2)
      obtain ⟨y, hy⟩ := Int.eq_ofNat_of_zero_le q1
      obtain ⟨z, hz⟩ := Int.eq_ofNat_of_zero_le q3
      have hy2 : y < m.nodes.length := by omega
      have hz2 : z < m.nodes.length := by omega
      by_cases e3 : (eth a.edges k).t = (eth b.edges x).t
      case neg =>
        have := bad (by simp [meF, natNeg, e2', hx, e3])
        rw [show meF a b m k = 13 by simp [meF, natNeg, e2', hx, e3]] at this
        simp [dw0, dw1, dw2, dw3, f3, f4, f5, f71, f72, o0, o1, o2, hc, hlt, hlt2, hlt3, hx, hx2, hx3, e2', drop_nth hlt, drop_edL hx2, drop_edL hlt2, e3, this]
        rfl
      by_cases e4 : nth m.nodes y = (eth b.edges x).f
      case neg =>
        have := bad (by simp [meF, natNeg, e2', hx, e3, hy, e4])
        rw [show meF a b m k = 11 by simp [meF, natNeg, e2', hx, e3, hy, e4]] at this
        simp [dw0, dw1, dw2, dw3, f3, f4, f5, f71, f72, o0, o1, o2, hc, hlt, hlt2, hlt3, hx, hx2, hx3, e2', drop_nth hlt, drop_edL hx2, drop_edL hlt2, e3, hy, hy2, drop_nth hy2, e4, this]
        exact ⟨rfl, rfl⟩
      by_cases e5 : nth m.nodes z = (eth b.edges x).g
      case neg =>
        have := bad (by simp [meF, natNeg, e2', hx, e3, hy, e4, hz, e5])
        rw [show meF a b m k = 11 by simp [meF, natNeg, e2', hx, e3, hy, e4, hz, e5]] at this
        simp [dw0, dw1, dw2, dw3, f3, f4, f5, f71, f72, o0, o1, o2, hc, hlt, hlt2, hlt3, hx, hx2, hx3, e2', drop_nth hlt, drop_edL hx2, drop_edL hlt2, e3, hy, hy2, drop_nth hy2, e4, hz, hz2, drop_nth hz2, e5, this]
        exact ⟨rfl, rfl⟩
      simp [dw0, dw1, dw2, dw3, f3, f4, f5, f71, f72, o0, o1, o2, hc, hlt, hlt2, hlt3, hx, hx2, hx3, e2', drop_nth hlt, drop_edL hx2, drop_edL hlt2, e3, hy, hy2, drop_nth hy2, e4, hz, hz2, drop_nth hz2, e5, hw]
      exact ⟨rfl, rfl, lt_succ_all hp (by simp [meF, natNeg, e2', hx, e3, hy, e4, hz, e5])⟩
    · rintro S hc ⟨f3, f4, f5, f71, f72, o0, o1, o2, hp⟩
      rw [fe_zero hp] at e0
      simp [f3, f4, f5, hc, f71, f72, e0]
end Go.Proofs.YthcnpnogfblkcaaGreat

/- Contracts: morphisms in the reference; the errors of the arguments. -/
namespace Go.Proofs.YthcnpnogfblkcaaGreat
open Abs
set_option linter.unusedSimpArgs false
set_option linter.unusedVariables false
attribute [local simp] rn0 rn1 rn2 rn3 rn4 rn5 rn6 rn7 evOp nests Arg.ev St.val St.set St.new sliceOf binInt2 binInt AV.cells rdAt St.live retOf resOf resAll treeOf treeCell treeCells treeTups untree frameOf TV.av TR.av ints edgs prs fillV splice intsOf trees V1.tree bx Gr.v Pa.v opRd opWr opNew opNewR opArgs argsRd argRd Arg.rd AV.refs V1.refs refsL dstL

def c_rvalid6 : MFunc := ⟨141, [.tmp 6], .seq (.region [⟨some 3, .box 0 25 (.tmp 0), none⟩, ⟨some 4, .box 1 25 (.tmp 1), none⟩, ⟨some 5, .box 2 27 (.tmp 2), none⟩, ⟨some 6, .mv (.c (.one (.t (.int .i64 0)))), none⟩]) (.seq (.seq (.region [⟨some 13, .load true 2 (.tmp 3), none⟩, ⟨some 14, .call (.c (.one (.fn 87 []))) 65 [.tmp 13], none⟩, ⟨some 7, .mv (.tmp 14), none⟩]) (.seq (.region [⟨some 15, .mv (.tmp 7), none⟩, ⟨some 16, .bin .neq (.tmp 15) (.c (.one (.t (.int .i64 0)))), none⟩]) (.cond (.tmp 16) (.seq (.region [⟨some 17, .mv (.tmp 7), none⟩, ⟨some 6, .mv (.tmp 17), none⟩]) .ret) .skip))) (.seq (.seq (.region [⟨some 18, .load true 2 (.tmp 4), none⟩, ⟨some 19, .call (.c (.one (.fn 87 []))) 257 [.tmp 18], none⟩, ⟨some 8, .mv (.tmp 19), none⟩]) (.seq (.region [⟨some 20, .mv (.tmp 8), none⟩, ⟨some 21, .bin .neq (.tmp 20) (.c (.one (.t (.int .i64 0)))), none⟩]) (.cond (.tmp 21) (.seq (.region [⟨some 22, .mv (.tmp 8), none⟩, ⟨some 6, .mv (.tmp 22), none⟩]) .ret) .skip))) (.seq (.seq (.region [⟨some 23, .fieldA 0 (.tmp 5), none⟩, ⟨some 24, .load false 1 (.tmp 23), none⟩, ⟨some 25, .len (.tmp 24), none⟩, ⟨some 26, .fieldA 0 (.tmp 3), none⟩, ⟨some 27, .load false 1 (.tmp 26), none⟩, ⟨some 28, .len (.tmp 27), none⟩, ⟨some 29, .bin .neq (.tmp 25) (.tmp 28), none⟩, ⟨some 30, .mv (.tmp 29), none⟩, ⟨some 31, .fieldA 1 (.tmp 5), some (30, false)⟩, ⟨some 32, .load false 1 (.tmp 31), some (30, false)⟩, ⟨some 33, .len (.tmp 32), some (30, false)⟩, ⟨some 34, .fieldA 1 (.tmp 3), some (30, false)⟩, ⟨some 35, .load false 1 (.tmp 34), some (30, false)⟩, ⟨some 36, .len (.tmp 35), some (30, false)⟩, ⟨some 37, .bin .neq (.tmp 33) (.tmp 36), some (30, false)⟩, ⟨some 38, .pick (.tmp 30) (.c (.one (.t (.bool true)))) (.tmp 37), none⟩]) (.cond (.tmp 38) (.seq (.region [⟨some 6, .mv (.c (.one (.t (.int .i64 20)))), none⟩]) .ret) .skip)) (.seq (.seq (.region [⟨some 9, .mv (.c (.one (.t (.int .i64 0)))), none⟩]) (.block 0 (.loop (.seq (.seq (.region [⟨some 39, .mv (.tmp 9), none⟩, ⟨some 40, .fieldA 0 (.tmp 3), none⟩, ⟨some 41, .load false 1 (.tmp 40), none⟩, ⟨some 42, .len (.tmp 41), none⟩, ⟨some 43, .bin .lss (.tmp 39) (.tmp 42), none⟩]) (.cond (.tmp 43) .skip (.exit 0))) (.seq (.block 1 (.seq (.seq (.draw [[], [0], [], [1, 2], [3], [4], [5], [6], [7, 6], [6], [8, 9, 6], [10, 6], [6], [12, 6], [13, 6], [11, 14, 6], [6, 15]] [⟨some 46, .fieldA 0 (.tmp 5), none⟩, ⟨some 47, .load false 1 (.tmp 46), none⟩, ⟨some 48, .mv (.tmp 9), none⟩, ⟨some 49, .idxA 1 (.tmp 47) (.tmp 48), none⟩, ⟨some 50, .load false 1 (.tmp 49), none⟩, ⟨some 51, .bin .lss (.tmp 50) (.c (.one (.t (.int .i64 0)))), none⟩, ⟨some 52, .mv (.tmp 51), none⟩, ⟨some 53, .fieldA 0 (.tmp 5), some (52, false)⟩, ⟨some 54, .load false 1 (.tmp 53), some (52, false)⟩, ⟨some 55, .mv (.tmp 9), some (52, false)⟩, ⟨some 56, .idxA 1 (.tmp 54) (.tmp 55), some (52, false)⟩, ⟨some 57, .load false 1 (.tmp 56), some (52, false)⟩, ⟨some 58, .fieldA 0 (.tmp 4), some (52, false)⟩, ⟨some 59, .load false 1 (.tmp 58), some (52, false)⟩, ⟨some 60, .len (.tmp 59), some (52, false)⟩, ⟨some 61, .bin .geq (.tmp 57) (.tmp 60), some (52, false)⟩, ⟨some 62, .pick (.tmp 52) (.c (.one (.t (.bool true)))) (.tmp 61), none⟩]) (.cond (.tmp 62) (.seq (.region [⟨some 6, .mv (.c (.one (.t (.int .i64 6)))), none⟩]) .ret) .skip)) (.seq (.draw [[], [0], [], [2], [], [3, 4], [5], [1, 6], [7], [], [9], [], [10, 11], [12], [8, 13]] [⟨some 63, .fieldA 0 (.tmp 4), none⟩, ⟨some 64, .load false 1 (.tmp 63), none⟩, ⟨some 65, .fieldA 0 (.tmp 5), none⟩, ⟨some 66, .load false 1 (.tmp 65), none⟩, ⟨some 67, .mv (.tmp 9), none⟩, ⟨some 68, .idxA 1 (.tmp 66) (.tmp 67), none⟩, ⟨some 69, .load false 1 (.tmp 68), none⟩, ⟨some 70, .idxA 1 (.tmp 64) (.tmp 69), none⟩, ⟨some 71, .load false 1 (.tmp 70), none⟩, ⟨some 72, .fieldA 0 (.tmp 3), none⟩, ⟨some 73, .load false 1 (.tmp 72), none⟩, ⟨some 74, .mv (.tmp 9), none⟩, ⟨some 75, .idxA 1 (.tmp 73) (.tmp 74), none⟩, ⟨some 76, .load false 1 (.tmp 75), none⟩, ⟨some 77, .bin .neq (.tmp 71) (.tmp 76), none⟩]) (.cond (.tmp 77) (.seq (.region [⟨some 6, .mv (.c (.one (.t (.int .i64 13)))), none⟩]) .ret) .skip)))) (.region [⟨some 44, .mv (.tmp 9), none⟩, ⟨some 45, .bin .add (.tmp 44) (.c (.one (.t (.int .i64 1)))), none⟩, ⟨some 9, .mv (.tmp 45), none⟩])))))) (.seq (.seq (.region [⟨some 10, .mv (.c (.one (.t (.int .i64 0)))), none⟩]) (.block 2 (.loop (.seq (.seq (.region [⟨some 78, .mv (.tmp 10), none⟩, ⟨some 79, .fieldA 1 (.tmp 3), none⟩, ⟨some 80, .load false 1 (.tmp 79), none⟩, ⟨some 81, .len (.tmp 80), none⟩, ⟨some 82, .bin .lss (.tmp 78) (.tmp 81), none⟩]) (.cond (.tmp 82) .skip (.exit 2))) (.seq (.block 3 (.seq (.seq (.draw [[], [0], [], [1, 2], [3], [4], [5], [6], [7, 6], [6], [8, 9, 6], [10, 6], [6], [12, 6], [13, 6], [11, 14, 6], [6, 15]] [⟨some 85, .fieldA 1 (.tmp 5), none⟩, ⟨some 86, .load false 1 (.tmp 85), none⟩, ⟨some 87, .mv (.tmp 10), none⟩, ⟨some 88, .idxA 1 (.tmp 86) (.tmp 87), none⟩, ⟨some 89, .load false 1 (.tmp 88), none⟩, ⟨some 90, .bin .lss (.tmp 89) (.c (.one (.t (.int .i64 0)))), none⟩, ⟨some 91, .mv (.tmp 90), none⟩, ⟨some 92, .fieldA 1 (.tmp 5), some (91, false)⟩, ⟨some 93, .load false 1 (.tmp 92), some (91, false)⟩, ⟨some 94, .mv (.tmp 10), some (91, false)⟩, ⟨some 95, .idxA 1 (.tmp 93) (.tmp 94), some (91, false)⟩, ⟨some 96, .load false 1 (.tmp 95), some (91, false)⟩, ⟨some 97, .fieldA 1 (.tmp 4), some (91, false)⟩, ⟨some 98, .load false 1 (.tmp 97), some (91, false)⟩, ⟨some 99, .len (.tmp 98), some (91, false)⟩, ⟨some 100, .bin .geq (.tmp 96) (.tmp 99), some (91, false)⟩, ⟨some 101, .pick (.tmp 91) (.c (.one (.t (.bool true)))) (.tmp 100), none⟩]) (.cond (.tmp 101) (.seq (.region [⟨some 6, .mv (.c (.one (.t (.int .i64 6)))), none⟩]) .ret) .skip)) (.seq (.draw [[], [0], [], [1, 2], [3], [], [5], [], [7], [], [8, 9], [10], [6, 11], [12], [], [], [14, 4, 0, 1, 2, 3, 4, 14, 15], [15, 13, 16, 0, 1, 2, 3, 4, 5, 6, 7, 8, 9, 10, 11, 12, 13, 14, 15, 16]] [⟨some 102, .fieldA 1 (.tmp 3), none⟩, ⟨some 103, .load false 1 (.tmp 102), none⟩, ⟨some 104, .mv (.tmp 10), none⟩, ⟨some 105, .idxA 3 (.tmp 103) (.tmp 104), none⟩, ⟨some 106, .load true 3 (.tmp 105), none⟩, ⟨some 107, .fieldA 1 (.tmp 4), none⟩, ⟨some 108, .load false 1 (.tmp 107), none⟩, ⟨some 109, .fieldA 1 (.tmp 5), none⟩, ⟨some 110, .load false 1 (.tmp 109), none⟩, ⟨some 111, .mv (.tmp 10), none⟩, ⟨some 112, .idxA 1 (.tmp 110) (.tmp 111), none⟩, ⟨some 113, .load false 1 (.tmp 112), none⟩, ⟨some 114, .idxA 3 (.tmp 108) (.tmp 113), none⟩, ⟨some 115, .load true 3 (.tmp 114), none⟩, ⟨some 11, .alloc 1358 76 [.t (.int .i64 0), .t (.int .i64 0), .t (.int .i64 0)], none⟩, ⟨some 12, .alloc 1359 76 [.t (.int .i64 0), .t (.int .i64 0), .t (.int .i64 0)], none⟩, ⟨none, .store 3 (.tmp 11) (.tmp 106), none⟩, ⟨none, .store 3 (.tmp 12) (.tmp 115), none⟩]) (.seq (.seq (.region [⟨some 116, .fieldA 0 (.tmp 11), none⟩, ⟨some 117, .load false 1 (.tmp 116), none⟩, ⟨some 118, .fieldA 0 (.tmp 12), none⟩, ⟨some 119, .load false 1 (.tmp 118), none⟩, ⟨some 120, .bin .neq (.tmp 117) (.tmp 119), none⟩]) (.cond (.tmp 120) (.seq (.region [⟨some 6, .mv (.c (.one (.t (.int .i64 13)))), none⟩]) .ret) .skip)) (.seq (.draw [[], [0], [], [2], [1, 3], [4], [], [6], [5, 7], [8], [9], [10, 9], [9], [12, 9], [11, 13, 9], [14, 9], [9], [16, 9], [15, 17, 9], [9, 18]] [⟨some 121, .fieldA 0 (.tmp 5), none⟩, ⟨some 122, .load false 1 (.tmp 121), none⟩, ⟨some 123, .fieldA 1 (.tmp 11), none⟩, ⟨some 124, .load false 1 (.tmp 123), none⟩, ⟨some 125, .idxA 1 (.tmp 122) (.tmp 124), none⟩, ⟨some 126, .load false 1 (.tmp 125), none⟩, ⟨some 127, .fieldA 1 (.tmp 12), none⟩, ⟨some 128, .load false 1 (.tmp 127), none⟩, ⟨some 129, .bin .neq (.tmp 126) (.tmp 128), none⟩, ⟨some 130, .mv (.tmp 129), none⟩, ⟨some 131, .fieldA 0 (.tmp 5), some (130, false)⟩, ⟨some 132, .load false 1 (.tmp 131), some (130, false)⟩, ⟨some 133, .fieldA 2 (.tmp 11), some (130, false)⟩, ⟨some 134, .load false 1 (.tmp 133), some (130, false)⟩, ⟨some 135, .idxA 1 (.tmp 132) (.tmp 134), some (130, false)⟩, ⟨some 136, .load false 1 (.tmp 135), some (130, false)⟩, ⟨some 137, .fieldA 2 (.tmp 12), some (130, false)⟩, ⟨some 138, .load false 1 (.tmp 137), some (130, false)⟩, ⟨some 139, .bin .neq (.tmp 136) (.tmp 138), some (130, false)⟩, ⟨some 140, .pick (.tmp 130) (.c (.one (.t (.bool true)))) (.tmp 139), none⟩]) (.cond (.tmp 140) (.seq (.region [⟨some 6, .mv (.c (.one (.t (.int .i64 11)))), none⟩]) .ret) .skip)))))) (.region [⟨some 83, .mv (.tmp 10), none⟩, ⟨some 84, .bin .add (.tmp 83) (.c (.one (.t (.int .i64 1)))), none⟩, ⟨some 10, .mv (.tmp 84), none⟩])))))) (.seq (.region [⟨some 6, .mv (.c (.one (.t (.int .i64 0)))), none⟩]) .ret))))))⟩
theorem k_rvalid6 : cFn Tryz.prog Tryz.f48 = some c_rvalid6 := by kernel_rfl
theorem rvalid6_ok (a b : Gr) (m : Pa) (ha : tinyG a) (hb : tinyG b) (hm : tinyP m) : CallOK Tryz.prog 48 [a.v, b.v, m.v] (.sv (false, [.int .i64 (morErr a b m)])) := by
  refine callOK_W (callS_W (by kernel_rfl) Tryz.func48 k_rvalid6 (callable_of Tryz.func48 (by kernel_rfl)) (by simp [c_rvalid6]) ?_)
  simp [c_rvalid6]
  refine callS_tree (rvalid_ok a ha.1.small ha.2.small) ?_ ?_ ?_
  · rfl
  · rfl
  by_cases h1 : gErr a = 0
  case neg => simp [h1, morErr]
  simp [h1]
  refine callS_tree (rvalid_ok b hb.1.small hb.2.small) ?_ ?_ ?_
  · rfl
  · rfl
  by_cases h2 : gErr b = 0
  case neg => simp [h1, h2, morErr]
  by_cases h3 : (m.nodes.length : Int) = a.nodes.length
  case neg => simp [h1, h2, h3, morErr]
  by_cases h4 : (m.edges.length : Int) = a.edges.length
  case neg => simp [h1, h2, h3, h4, morErr]
  simp [h2, h3, h4]
  have e0 : morErr a b m = if fe (mnF a b m) m.nodes.length = 0 then fe (meF a b m) m.edges.length else fe (mnF a b m) m.nodes.length := by simp [morErr, h1, h2, h3, h4]
  have ga := gErr_ok h1
  have gb := gErr_ok h2
  have l3 : m.nodes.length = a.nodes.length := by omega
  have l4 : m.edges.length = a.edges.length := by omega
  refine loopW_count 9 m.nodes.length (fun k S => S.fr 3 = .one (.ptr (0, 0) 0) ∧ S.fr 4 = .one (.ptr (1, 0) 0) ∧ S.fr 5 = .one (.ptr (2, 0) 0) ∧
    S.ob (0, 0) = some (bx 25 (a.v.2.map .t)) ∧ S.ob (1, 0) = some (bx 25 (b.v.2.map .t)) ∧ S.ob (2, 0) = some (bx 27 (m.v.2.map .t)) ∧ ∀ j, j < k → mnF a b m j = 0) hm.1.small ?_ ?_ ?_
  · simp [h3]
  · rintro k S hlt hw hc ⟨f3, f4, f5, o0, o1, o2, hp⟩
    have bad : mnF a b m k ≠ 0 → morErr a b m = mnF a b m k := fun h => by
      have := fe_at (n := m.nodes.length) hlt hp h
      rw [e0, this, if_neg h]
    have hlt2 : k < a.nodes.length := by omega
    by_cases e1 : nth m.nodes k < 0
    · have := bad (by simp [mnF, e1])
      rw [show mnF a b m k = 6 by simp [mnF, e1]] at this
      simp [dw0, dw1, dw2, dw3, f3, f4, f5, o0, o1, o2, hc, hlt, hlt2, drop_nth hlt, e1, this]
      rfl
    by_cases e2 : (b.nodes.length : Int) ≤ nth m.nodes k
    · have := bad (by simp [mnF, e1, e2])
      rw [show mnF a b m k = 6 by simp [mnF, e1, e2]] at this
      simp [dw0, dw1, dw2, dw3, f3, f4, f5, o0, o1, o2, hc, hlt, hlt2, drop_nth hlt, e1, e2, this]
      rfl
    obtain ⟨x, hx⟩ := Int.eq_ofNat_of_zero_le (show 0 ≤ nth m.nodes k by omega)
    have hx2 : x < b.nodes.length := by omega
    have e2' : ¬ b.nodes.length ≤ x := by omega
    by_cases e3 : nth b.nodes x = nth a.nodes k
    case neg =>
      have := bad (by simp [mnF, natNeg, e2', hx, e3])
      rw [show mnF a b m k = 13 by simp [mnF, natNeg, e2', hx, e3]] at this
      simp [dw0, dw1, dw2, dw3, f3, f4, f5, o0, o1, o2, hc, hlt, hlt2, hx, hx2, e2', drop_nth hlt, drop_nth hx2, drop_nth hlt2, e3, this]
      exact ⟨rfl, rfl⟩
    simp [dw0, dw1, dw2, dw3, f3, f4, f5, o0, o1, o2, hc, hlt, hlt2, hx, hx2, e2', drop_nth hlt, drop_nth hx2, drop_nth hlt2, e3, hw]
    exact ⟨rfl, rfl, lt_succ_all hp (by simp [mnF, natNeg, e2', hx, e3])⟩
  · rintro S hc ⟨f3, f4, f5, o0, o1, o2, hp⟩
    rw [fe_zero hp, if_pos rfl] at e0
    simp [f3, f4, f5, o0, o1, o2, hc, l3]
    refine loopW_count 10 m.edges.length (fun k S => S.fr 3 = .one (.ptr (0, 0) 0) ∧ S.fr 4 = .one (.ptr (1, 0) 0) ∧ S.fr 5 = .one (.ptr (2, 0) 0) ∧
      S.ob (0, 0) = some (bx 25 (a.v.2.map .t)) ∧ S.ob (1, 0) = some (bx 25 (b.v.2.map .t)) ∧ S.ob (2, 0) = some (bx 27 (m.v.2.map .t)) ∧ ∀ j, j < k → meF a b m j = 0) hm.2.small ?_ ?_ ?_
    · simp [f3, f4, f5, o0, o1, o2]
    · rintro k S hlt hw hc ⟨f3, f4, f5, o0, o1, o2, hp⟩
      have bad : meF a b m k ≠ 0 → morErr a b m = meF a b m k := fun h => by
        have := fe_at (n := m.edges.length) hlt hp h
        rw [e0, this]
      have hlt2 : k < a.edges.length := by omega
      have hlt3 : k * 3 < a.edges.length * 3 := by omega
      by_cases e1 : nth m.edges k < 0
      · have := bad (by simp [meF, e1])
        rw [show meF a b m k = 6 by simp [meF, e1]] at this
        simp [dw0, dw1, dw2, dw3, f3, f4, f5, o0, o1, o2, hc, hlt, hlt2, drop_nth hlt, e1, this]
        rfl
      by_cases e2 : (b.edges.length : Int) ≤ nth m.edges k
      · have := bad (by simp [meF, e1, e2])
        rw [show meF a b m k = 6 by simp [meF, e1, e2]] at this
        simp [dw0, dw1, dw2, dw3, f3, f4, f5, o0, o1, o2, hc, hlt, hlt2, drop_nth hlt, e1, e2, this]
        rfl
      obtain ⟨x, hx⟩ := Int.eq_ofNat_of_zero_le (show 0 ≤ nth m.edges k by omega)
      have hx2 : x < b.edges.length := by omega
      have hx3 : x * 3 < b.edges.length * 3 := by omega
      have e2' : ¬ b.edges.length ≤ x := by omega
      obtain ⟨_, _, q1, q2, q3, q4⟩ := ga.edges _ (eth_mem hlt2)
      obtain ⟨y, hy⟩ := Int.eq_ofNat_of_zero_le q1
      obtain ⟨z, hz⟩ := Int.eq_ofNat_of_zero_le q3
      have hy2 : y < m.nodes.length := by omega
      have hz2 : z < m.nodes.length := by omega
      by_cases e3 : (eth a.edges k).t = (eth b.edges x).t
      case neg =>
        have := bad (by simp [meF, natNeg, e2', hx, e3])
        rw [show meF a b m k = 13 by simp [meF, natNeg, e2', hx, e3]] at this
        simp [dw0, dw1, dw2, dw3, f3, f4, f5, o0, o1, o2, hc, hlt, hlt2, hlt3, hx, hx2, hx3, e2', drop_nth hlt, drop_edL hx2, drop_edL hlt2, e3, this]
        exact ⟨rfl, rfl⟩
      by_cases e4 : nth m.nodes y = (eth b.edges x).f
      case neg =>
        have := bad (by simp [meF, natNeg, e2', hx, e3, hy, e4])
        rw [show meF a b m k = 11 by simp [meF, natNeg, e2', hx, e3, hy, e4]] at this
        simp [dw0, dw1, dw2, dw3, f3, f4, f5, o0, o1, o2, hc, hlt, hlt2, hlt3, hx, hx2, hx3, e2', drop_nth hlt, drop_edL hx2, drop_edL hlt2, e3, hy, hy2, drop_nth hy2, e4, this]
        exact ⟨rfl, rfl, rfl⟩
      by_cases e5 : nth m.nodes z = (eth b.edges x).g
      case neg =>
        have := bad (by simp [meF, natNeg, e2', hx, e3, hy, e4, hz, e5])
        rw [show meF a b m k = 11 by simp [meF, natNeg, e2', hx, e3, hy, e4, hz, e5]] at this
        simp [dw0, dw1, dw2, dw3, f3, f4, f5, o0, o1, o2, hc, hlt, hlt2, hlt3, hx, hx2, hx3, e2', drop_nth hlt, drop_edL hx2, drop_edL hlt2, e3, hy, hy2, drop_nth hy2, e4, hz, hz2, drop_nth hz2, e5, this]
        exact ⟨rfl, rfl, rfl⟩
      simp [dw0, dw1, dw2, dw3, f3, f4, f5, o0, o1, o2, hc, hlt, hlt2, hlt3, hx, hx2, hx3, e2', drop_nth hlt, drop_edL hx2, drop_edL hlt2, e3, hy, hy2, drop_nth hy2, e4, hz, hz2, drop_nth hz2, e5, hw]
      exact ⟨rfl, rfl, rfl, lt_succ_all hp (by simp [meF, natNeg, e2', hx, e3, hy, e4, hz, e5])⟩
    · rintro S hc ⟨f3, f4, f5, o0, o1, o2, hp⟩
      rw [fe_zero hp] at e0
      simp [f3, f4, f5, hc, o0, o1, o2, l4, e0]
end Go.Proofs.YthcnpnogfblkcaaGreat

/- Contracts: what is to be deleted, what stays, which pairs are identified. -/
namespace Go.Proofs.YthcnpnogfblkcaaGreat
open Abs
set_option linter.unusedSimpArgs false
set_option linter.unusedVariables false

def goneF (l keep : List Int) (i : Nat) : Option Int := if (i : Int) ∈ keep then none else some (nth l i)
/-- The images of the elements that are not kept. -/
def goneL (l keep : List Int) : List Int := collect (goneF l keep) l.length
def restF (gone : List Int) (i : Nat) : Option Int := if (i : Int) ∈ gone then none else some i
/-- The numbers below n that are not in a list. -/
def restL (n : Nat) (gone : List Int) : List Int := collect (restF gone) n
def pairF (l keep : List Int) (a b : Nat) : Option (Int × Int) := if a < b ∧ nth l a = nth l b ∧ ¬ ((a : Int) ∈ keep ∧ (b : Int) ∈ keep) then some (a, b) else none
/-- The identified pairs. -/
def pairsL (l keep : List Int) : List (Int × Int) := gather (fun a => collect (pairF l keep a) l.length) l.length



end Go.Proofs.YthcnpnogfblkcaaGreat

/- Contracts: what the program deletes and keeps, dangling edges. -/
namespace Go.Proofs.YthcnpnogfblkcaaGreat
open Abs
set_option linter.unusedSimpArgs false
set_option linter.unusedVariables false

/-- A case: two graphs, a part and a morphism, as the eight cells of a gluing. -/
def gluV (l g : Gr) (p m : Pa) : TV := (true, [ints l.nodes, edgs l.edges, ints g.nodes, edgs g.edges, ints p.nodes, ints p.edges, ints m.nodes, ints m.edges])


def danglF (g : Gr) (m : Pa) (gone : List Int) (i : Nat) : Option Int := if (i : Int) ∈ m.edges then none else if (eth g.edges i).f ∈ gone then some i else if (eth g.edges i).g ∈ gone then some i else none
/-- The dangling edges. -/
def danglL (g : Gr) (p m : Pa) : List Int := collect (danglF g m (goneL m.nodes p.nodes)) g.edges.length

theorem goneL_len {l k : List Int} : (goneL l k).length ≤ l.length := collect_len

end Go.Proofs.YthcnpnogfblkcaaGreat

/- Contracts: what the program keeps of the graph; the errors of a case; complements. -/
namespace Go.Proofs.YthcnpnogfblkcaaGreat
open Abs
set_option linter.unusedSimpArgs false
set_option linter.unusedVariables false

/-- A row of marks. -/
def markC (g : List Int) (n : Nat) : List V1 := (List.range n).map fun (i : Nat) => V1.t (.bool (decide ((i : Int) ∈ g)))
theorem len_mark {g : List Int} {n : Nat} : (markC g n).length = n := by simp [markC]
theorem mark_nil {n : Nat} : List.replicate n (V1.t (.bool false)) = markC [] n := by
  apply List.ext_getElem
  · simp [len_mark]
  · intro i h1 h2
    simp [markC]
theorem drop_mark {g : List Int} {n k : Nat} (h : k < n) : (markC g n).drop k = .t (.bool (decide ((k : Int) ∈ g))) :: (markC g n).drop (k + 1) := by
  rw [List.drop_eq_getElem_cons (by rw [len_mark]; exact h)]
  simp [markC]
theorem mark_set {g : List Int} {n x : Nat} (h : x < n) : (markC g n).take x ++ .t (.bool true) :: (markC g n).drop (x + 1) = markC (g ++ [(x : Int)]) n := by
  apply List.ext_getElem
  · simp [len_mark]
    omega
  · intro i h1 h2
    rw [len_mark] at h2
    rw [List.getElem_append]
    split
    · rename_i hi
      simp [len_mark] at hi
      have : ¬ (i : Int) = (x : Int) := by omega
      simp [markC, this]
    · rename_i hi
      simp [len_mark] at hi
      by_cases e : i = x
      · subst e
        simp [markC, len_mark, Nat.min_eq_left (Nat.le_of_lt h)]
      · have e1 : x < i := by omega
        obtain ⟨d, hd⟩ : ∃ d, i = x + 1 + d := ⟨i - x - 1, by omega⟩
        subst hd
        have : ¬ ((x + 1 + d : Nat) : Int) = (x : Int) := by omega
        have e2 : x + 1 + d - ((markC g n).take x).length = d + 1 := by simp [len_mark]; omega
        simp only [e2, List.getElem_cons_succ, List.getElem_drop]
        simp [markC]
        omega


end Go.Proofs.YthcnpnogfblkcaaGreat

/- Contracts: the errors of a case; complements. -/
namespace Go.Proofs.YthcnpnogfblkcaaGreat
open Abs
set_option linter.unusedSimpArgs false
set_option linter.unusedVariables false

structure MorOk (a b : Gr) (m : Pa) : Prop where
  ga : GrOk a
  gb : GrOk b
  ln : m.nodes.length = a.nodes.length
  le : m.edges.length = a.edges.length
  n : ∀ i, i < a.nodes.length → 0 ≤ nth m.nodes i ∧ nth m.nodes i < b.nodes.length ∧ nth b.nodes (nth m.nodes i).toNat = nth a.nodes i
  e : ∀ i, i < a.edges.length → 0 ≤ nth m.edges i ∧ nth m.edges i < b.edges.length ∧ (eth a.edges i).t = (eth b.edges (nth m.edges i).toNat).t ∧
    nth m.nodes (eth a.edges i).f.toNat = (eth b.edges (nth m.edges i).toNat).f ∧ nth m.nodes (eth a.edges i).g.toNat = (eth b.edges (nth m.edges i).toNat).g

theorem mor_ok {a b : Gr} {m : Pa} (h : morErr a b m = 0) : MorOk a b m := by
  by_cases h1 : gErr a = 0
  case neg => simp [morErr, h1] at h
  by_cases h2 : gErr b = 0
  case neg => simp [morErr, h1, h2] at h
  by_cases h3 : (m.nodes.length : Int) = a.nodes.length ∧ (m.edges.length : Int) = a.edges.length
  case neg => rw [morErr, if_pos h1, if_pos h2, if_neg h3] at h; cases h
  rw [morErr, if_pos h1, if_pos h2, if_pos h3] at h
  by_cases h4 : fe (mnF a b m) m.nodes.length = 0
  case neg => rw [if_neg h4] at h; exact absurd h h4
  rw [if_pos h4] at h
  have ln : m.nodes.length = a.nodes.length := by omega
  have le : m.edges.length = a.edges.length := by omega
  refine ⟨gErr_ok h1, gErr_ok h2, ln, le, fun i hi => ?_, fun i hi => ?_⟩
  · have := fe_eq h4 i (by omega)
    simp only [mnF] at this
    split at this
    · cases this
    split at this
    · cases this
    split at this
    · exact ⟨by omega, by omega, by assumption⟩
    · cases this
  · have := fe_eq h i (by omega)
    simp only [meF] at this
    split at this
    · cases this
    split at this
    · cases this
    split at this
    · split at this
      · split at this
        · exact ⟨by omega, by omega, by assumption, by assumption, by assumption⟩
        · cases this
      · cases this
    · cases this

theorem MorOk.rn {a b : Gr} {m : Pa} (h : MorOk a b m) : ∀ x ∈ m.nodes, 0 ≤ x ∧ x < b.nodes.length := fun x hx => by
  obtain ⟨k, hk, rfl⟩ := mem_nth hx
  have := h.n k (by rw [← h.ln]; exact hk)
  exact ⟨this.1, this.2.1⟩
theorem MorOk.re {a b : Gr} {m : Pa} (h : MorOk a b m) : ∀ x ∈ m.edges, 0 ≤ x ∧ x < b.edges.length := fun x hx => by
  obtain ⟨k, hk, rfl⟩ := mem_nth hx
  have := h.e k (by rw [← h.le]; exact hk)
  exact ⟨this.1, this.2.1⟩

/-- The error of a case. -/
def caseErr (l g : Gr) (p m : Pa) : Int := if morErr l g m = 0 then subErr l p else morErr l g m

structure TinyCase (l g : Gr) (p m : Pa) : Prop where
  tl : tinyG l
  tg : tinyG g
  tp : tinyP p
  tm : tinyP m




/-- The complement, or an error. -/
def ofR (l g : Gr) (p m : Pa) : Pa × Int :=
  if caseErr l g p m = 0 then
    if (0 : Int) < (pairsL m.nodes p.nodes).length + (pairsL m.edges p.edges).length then (⟨[], []⟩, 15)
    else if danglL g p m = [] then (⟨restL g.nodes.length (goneL m.nodes p.nodes), restL g.edges.length (goneL m.edges p.edges)⟩, 0)
    else (⟨[], []⟩, 14)
  else (⟨[], []⟩, caseErr l g p m)

theorem pairsL_len {l k : List Int} (h : l.length ≤ 1000) : (pairsL l k).length ≤ 1000000 := by
  have := gather_len (f := fun a => collect (pairF l k a) l.length) (m := l.length) (fun j => collect_len) l.length
  have g2 : l.length * l.length ≤ 1000 * 1000 := Nat.mul_le_mul h h
  simp only [pairsL]
  omega

theorem caseErr_ok {l g : Gr} {p m : Pa} (h : caseErr l g p m = 0) : MorOk l g m ∧ subErr l p = 0 := by
  unfold caseErr at h
  split at h
  · exact ⟨mor_ok (by assumption), h⟩
  · exact absurd h (by assumption)


end Go.Proofs.YthcnpnogfblkcaaGreat

/- Contracts: copies, comparisons, sizes. -/
namespace Go.Proofs.YthcnpnogfblkcaaGreat
open Abs
set_option linter.unusedSimpArgs false
set_option linter.unusedVariables false
attribute [local simp] rn0 rn1 rn2 rn3 rn4 rn5 rn6 rn7 evOp nests Arg.ev St.val St.set St.new sliceOf binInt2 binInt AV.cells rdAt St.live retOf resOf resAll treeOf treeCell treeCells treeTups untree frameOf TV.av TR.av ints edgs prs fillV splice intsOf trees V1.tree bx Gr.v Pa.v opRd opWr opNew opNewR opArgs argsRd argRd Arg.rd AV.refs V1.refs refsL dstL

theorem ofInts_inj {a b : List Int} (h : a.map (C.int .i64) = b.map (C.int .i64)) : a = b := by
  induction a generalizing b with
  | nil => cases b with
    | nil => rfl
    | cons y r => simp at h
  | cons x r ih => cases b with
    | nil => simp at h
    | cons y r' =>
      simp at h
      rw [h.1, ih (by simpa using h.2)]

theorem list_ext_nth {a b : List Int} (hl : a.length = b.length) (h : ∀ k, k < a.length → nth a k = nth b k) : a = b := by
  apply List.ext_getElem hl
  intro i h1 h2
  have := h i h1
  rwa [nth_eq h1, nth_eq h2] at this

def c_sameInts : MFunc := ⟨26, [.tmp 4], .seq (.region [⟨some 4, .mv (.c (.one (.t (.bool false)))), none⟩]) (.seq (.seq (.region [⟨some 6, .mv (.tmp 0), none⟩, ⟨some 7, .len (.tmp 6), none⟩, ⟨some 8, .mv (.tmp 1), none⟩, ⟨some 9, .len (.tmp 8), none⟩, ⟨some 10, .bin .neq (.tmp 7) (.tmp 9), none⟩]) (.cond (.tmp 10) (.seq (.region [⟨some 4, .mv (.c (.one (.t (.bool false)))), none⟩]) .ret) .skip)) (.seq (.seq (.region [⟨some 5, .mv (.c (.one (.t (.int .i64 0)))), none⟩]) (.block 0 (.loop (.seq (.seq (.region [⟨some 11, .mv (.tmp 5), none⟩, ⟨some 12, .mv (.tmp 0), none⟩, ⟨some 13, .len (.tmp 12), none⟩, ⟨some 14, .bin .lss (.tmp 11) (.tmp 13), none⟩]) (.cond (.tmp 14) .skip (.exit 0))) (.seq (.block 1 (.seq (.draw [[], [], [0, 1], [2], [], [], [4, 5], [6], [3, 7]] [⟨some 17, .mv (.tmp 0), none⟩, ⟨some 18, .mv (.tmp 5), none⟩, ⟨some 19, .idxA 1 (.tmp 17) (.tmp 18), none⟩, ⟨some 20, .load false 1 (.tmp 19), none⟩, ⟨some 21, .mv (.tmp 1), none⟩, ⟨some 22, .mv (.tmp 5), none⟩, ⟨some 23, .idxA 1 (.tmp 21) (.tmp 22), none⟩, ⟨some 24, .load false 1 (.tmp 23), none⟩, ⟨some 25, .bin .neq (.tmp 20) (.tmp 24), none⟩]) (.cond (.tmp 25) (.seq (.region [⟨some 4, .mv (.c (.one (.t (.bool false)))), none⟩]) .ret) .skip))) (.region [⟨some 15, .mv (.tmp 5), none⟩, ⟨some 16, .bin .add (.tmp 15) (.c (.one (.t (.int .i64 1)))), none⟩, ⟨some 5, .mv (.tmp 16), none⟩])))))) (.seq (.region [⟨some 4, .mv (.c (.one (.t (.bool true)))), none⟩]) .ret)))⟩
theorem k_sameInts : cFn Tryz.prog Tryz.f59 = some c_sameInts := by kernel_rfl
theorem sameInts_ok (a b : List Int) (ha : tiny a.length) (hb : tiny b.length) : CallOK Tryz.prog 59 [(false, [ints a]), (false, [ints b])] (.sv (false, [.bool (decide (a = b))])) := by
  refine callOK_W (callS_W (by kernel_rfl) Tryz.func59 k_sameInts (callable_of Tryz.func59 (by kernel_rfl)) (by simp [c_sameInts]) ?_)
  by_cases hl : (a.length : Int) = b.length
  case neg =>
    have : ¬ a = b := fun e => hl (by rw [e])
    simp [c_sameInts, hl, this]
  simp [c_sameInts, hl]
  have hl' : a.length = b.length := by omega
  refine loopW_count 5 a.length (fun k S => S.fr 0 = .one (.t (ints a)) ∧ S.fr 1 = .one (.t (ints b)) ∧ ∀ j, j < k → nth a j = nth b j) ha.small ?_ ?_ ?_
  · simp [hl]
  · rintro k S hlt hw hc ⟨f0, f1, hp⟩
    have hlt2 : k < b.length := by omega
    by_cases e : nth a k = nth b k
    · simp [dw0, dw1, dw2, dw3, f0, f1, hc, hlt, hlt2, drop_nth hlt, drop_nth hlt2, e, hw]
      exact ⟨rfl, lt_succ_all hp e⟩
    · have : ¬ a = b := fun h => e (by rw [h])
      simp [dw0, dw1, dw2, dw3, f0, f1, hc, hlt, hlt2, drop_nth hlt, drop_nth hlt2, e, this]
      rfl
  · rintro S hc ⟨f0, f1, hp⟩
    have : a = b := list_ext_nth hl' hp
    simp [f0, f1, hc, this]

def c_equal : MFunc := ⟨26, [.tmp 4], .seq (.region [⟨some 4, .mv (.c (.one (.t (.bool false)))), none⟩]) (.seq (.seq (.region [⟨some 6, .mv (.tmp 0), none⟩, ⟨some 7, .len (.tmp 6), none⟩, ⟨some 8, .mv (.tmp 1), none⟩, ⟨some 9, .len (.tmp 8), none⟩, ⟨some 10, .bin .neq (.tmp 7) (.tmp 9), none⟩]) (.cond (.tmp 10) (.seq (.region [⟨some 4, .mv (.c (.one (.t (.bool false)))), none⟩]) .ret) .skip)) (.seq (.seq (.region [⟨some 11, .mv (.tmp 0), none⟩, ⟨some 12, .len (.tmp 11), none⟩, ⟨some 13, .mv (.c (.one (.t (.int .i64 0)))), none⟩]) (.block 0 (.loop (.seq (.region [⟨some 14, .bin .lss (.tmp 13) (.tmp 12), none⟩]) (.seq (.cond (.tmp 14) .skip (.exit 0)) (.seq (.block 1 (.seq (.region [⟨some 15, .mv (.tmp 13), none⟩, ⟨some 5, .mv (.tmp 15), none⟩]) (.seq (.draw [[], [], [0, 1], [2], [], [], [4, 5], [6], [3, 7]] [⟨some 16, .mv (.tmp 0), none⟩, ⟨some 17, .mv (.tmp 5), none⟩, ⟨some 18, .idxA 1 (.tmp 16) (.tmp 17), none⟩, ⟨some 19, .load false 1 (.tmp 18), none⟩, ⟨some 20, .mv (.tmp 1), none⟩, ⟨some 21, .mv (.tmp 5), none⟩, ⟨some 22, .idxA 1 (.tmp 20) (.tmp 21), none⟩, ⟨some 23, .load false 1 (.tmp 22), none⟩, ⟨some 24, .bin .neq (.tmp 19) (.tmp 23), none⟩]) (.cond (.tmp 24) (.seq (.region [⟨some 4, .mv (.c (.one (.t (.bool false)))), none⟩]) .ret) .skip)))) (.region [⟨some 25, .bin .add (.tmp 13) (.c (.one (.t (.int .i64 1)))), none⟩, ⟨some 13, .mv (.tmp 25), none⟩]))))))) (.seq (.region [⟨some 4, .mv (.c (.one (.t (.bool true)))), none⟩]) .ret)))⟩
theorem k_equal : cFn Tryz.prog Tryz.f117 = some c_equal := by kernel_rfl
theorem equal_ok (a b : List Int) (ha : tiny a.length) (hb : tiny b.length) : CallOK Tryz.prog 117 [(false, [ints a]), (false, [ints b])] (.sv (false, [.bool (decide (a = b))])) := by
  refine callOK_W (callS_W (by kernel_rfl) Tryz.func117 k_equal (callable_of Tryz.func117 (by kernel_rfl)) (by simp [c_equal]) ?_)
  by_cases hl : (a.length : Int) = b.length
  case neg =>
    have : ¬ a = b := fun e => hl (by rw [e])
    simp [c_equal, hl, this]
  simp [c_equal, hl]
  have hl' : a.length = b.length := by omega
  refine loopW_count 13 a.length (fun k S => S.fr 0 = .one (.t (ints a)) ∧ S.fr 1 = .one (.t (ints b)) ∧ S.fr 12 = .one (.t (.int .i64 a.length)) ∧ ∀ j, j < k → nth a j = nth b j) ha.small ?_ ?_ ?_
  · simp [hl]
  · rintro k S hlt hw hc ⟨f0, f1, f12, hp⟩
    have hlt2 : k < b.length := by omega
    by_cases e : nth a k = nth b k
    · simp [dw0, dw1, dw2, dw3, f0, f1, f12, hc, hlt, hlt2, drop_nth hlt, drop_nth hlt2, e, hw]
      exact ⟨rfl, lt_succ_all hp e⟩
    · have : ¬ a = b := fun h => e (by rw [h])
      simp [dw0, dw1, dw2, dw3, f0, f1, f12, hc, hlt, hlt2, drop_nth hlt, drop_nth hlt2, e, this]
      rfl
  · rintro S hc ⟨f0, f1, f12, hp⟩
    have : a = b := list_ext_nth hl' hp
    simp [f0, f1, f12, hc, this]


def c_clone : MFunc := ⟨8, [.tmp 2], .seq (.region [⟨some 2, .mv (.c (.one .nil)), none⟩]) (.seq (.seq (.region [⟨some 3, .mv (.tmp 0), none⟩, ⟨some 4, .isnil false (.tmp 3), none⟩]) (.cond (.tmp 4) (.seq (.region [⟨some 2, .mv (.c (.one .nil)), none⟩]) .ret) .skip)) (.seq (.region [⟨some 5, .mkrow 192 3 1 0 [] [], none⟩, ⟨some 6, .mv (.tmp 0), none⟩, ⟨some 7, .append 194 3 1 8 (.tmp 5) (.tmp 6), none⟩, ⟨some 2, .mv (.tmp 7), none⟩]) .ret))⟩
theorem k_clone : cFn Tryz.prog Tryz.f25 = some c_clone := by kernel_rfl
theorem clone_row (l : List Int) (hl : tiny l.length) : RowI Tryz.prog 25 [(false, [ints l])] 3 l := by
  refine callRow_W (plain_ints _) (by simp) (by omega) (callS_W (by kernel_rfl) Tryz.func25 k_clone (callable_of Tryz.func25 (by kernel_rfl)) (by simp [c_clone]) ?_)
  simp only [tiny] at hl
  simp [c_clone, kNil]
  refine ⟨?_, fun h0 => by subst h0; simp [rowIs]⟩
  by_cases h0 : l = []
  · subst h0
    simp [kApp, evApp, rowIs]
  · have hpos : 0 < l.length := List.length_pos_iff.2 h0
    refine kApp_grow (n := 0) (cs := []) (ts := l.map (.int .i64)) (by simp) outR_nil hpos (by simp) (by omega) (by omega) fun E hE hob hcnt => ?_
    obtain ⟨u, hu⟩ := hE.one
    rw [hu] at hE
    simp [hu]
    simpa using hE.rowIs


def fewG (g : Gr) : Bool := decide ((g.nodes.length : Int) ≤ 45) && decide ((g.edges.length : Int) ≤ 90)
def fewP (p : Pa) (n : Int) : Bool := decide ((p.nodes.length : Int) + p.edges.length ≤ n)

def c_few5 : MFunc := ⟨13, [.tmp 2], .seq (.region [⟨some 1, .box 0 25 (.tmp 0), none⟩, ⟨some 2, .mv (.c (.one (.t (.bool false)))), none⟩]) (.seq (.region [⟨some 3, .fieldA 0 (.tmp 1), none⟩, ⟨some 4, .load false 1 (.tmp 3), none⟩, ⟨some 5, .len (.tmp 4), none⟩, ⟨some 6, .bin .leq (.tmp 5) (.c (.one (.t (.int .i64 45)))), none⟩, ⟨some 7, .mv (.tmp 6), none⟩, ⟨some 8, .fieldA 1 (.tmp 1), some (7, true)⟩, ⟨some 9, .load false 1 (.tmp 8), some (7, true)⟩, ⟨some 10, .len (.tmp 9), some (7, true)⟩, ⟨some 11, .bin .leq (.tmp 10) (.c (.one (.t (.int .i64 90)))), some (7, true)⟩, ⟨some 12, .pick (.tmp 7) (.tmp 11) (.c (.one (.t (.bool false)))), none⟩, ⟨some 2, .mv (.tmp 12), none⟩]) .ret)⟩
theorem k_few5 : cFn Tryz.prog Tryz.f13 = some c_few5 := by kernel_rfl
theorem few5_ok (g : Gr) : CallOK Tryz.prog 13 [g.v] (.sv (false, [.bool (fewG g)])) := by
  refine callOK_W (callS_W (by kernel_rfl) Tryz.func13 k_few5 (callable_of Tryz.func13 (by kernel_rfl)) (by simp [c_few5]) ?_)
  by_cases h : (g.nodes.length : Int) ≤ 45 <;> simp [c_few5, fewG, h]

/-- Lengths that a slice in memory can have. -/
abbrev huge (n : Nat) : Prop := n ≤ 4000000000000000000


def c_few6 : MFunc := ⟨14, [.tmp 4], .seq (.region [⟨some 2, .box 0 27 (.tmp 0), none⟩, ⟨some 4, .mv (.c (.one (.t (.bool false)))), none⟩]) (.seq (.region [⟨some 5, .fieldA 0 (.tmp 2), none⟩, ⟨some 6, .load false 1 (.tmp 5), none⟩, ⟨some 7, .len (.tmp 6), none⟩, ⟨some 8, .fieldA 1 (.tmp 2), none⟩, ⟨some 9, .load false 1 (.tmp 8), none⟩, ⟨some 10, .len (.tmp 9), none⟩, ⟨some 11, .bin .add (.tmp 7) (.tmp 10), none⟩, ⟨some 12, .mv (.tmp 1), none⟩, ⟨some 13, .bin .leq (.tmp 11) (.tmp 12), none⟩, ⟨some 4, .mv (.tmp 13), none⟩]) .ret)⟩
theorem k_few6 : cFn Tryz.prog Tryz.f14 = some c_few6 := by kernel_rfl
theorem few6_ok (p : Pa) (n : Int) (h1 : huge p.nodes.length) (h2 : huge p.edges.length) : CallOK Tryz.prog 14 [p.v, (false, [.int .i64 n])] (.sv (false, [.bool (fewP p n)])) := by
  refine callOK_W (callS_W (by kernel_rfl) Tryz.func14 k_few6 (callable_of Tryz.func14 (by kernel_rfl)) (by simp [c_few6]) ?_)
  have hw : IntKind.i64.wrap ((p.nodes.length : Int) + p.edges.length) = (p.nodes.length : Int) + p.edges.length := by
    simp only [huge] at h1 h2
    rw [wrap64_id] <;> omega
  simp [c_few6, fewP, hw]

def fewC (l g : Gr) (p m : Pa) : Bool := fewG l && fewG g && fewP p 140 && fewP m 140

/-- The dangling edges, or an error. -/
def danglR (l g : Gr) (p m : Pa) : List Int × Int := if caseErr l g p m = 0 then (danglL g p m, 0) else ([], caseErr l g p m)

end Go.Proofs.YthcnpnogfblkcaaGreat

/- Calls that write into a row that they are given: sorting, and leaving out what repeats. -/
namespace Go.Proofs.YthcnpnogfblkcaaGreat.Abs
open Go.RowKit Go.Sort
set_option linter.unusedVariables false
set_option linter.unusedSimpArgs false

section
variable {P : Program} {w w' w0 : World} {Zc : Nat → Prop} {m : Map} {ob : Nm → Option Ob} {cnt : Nat → Nat}

/-- A row's object holds new numbers. -/
theorem hr_put (h : HR w0 Zc m ob cnt w) {o : Nm} {x : Ob} {zs ts : List Int} (ho : ob o = some x) (hl : x.live = true) (hrow : x.isRow = true) (hf : x.frz = false) (hesz : x.esz = 1) (hn : x.n = zs.length) (hc : x.cells = zs.map fun z => .t (.int .i64 z)) (hlen : ts.length = zs.length)
    {n : Nat} {os : Array Obj} (hw : w' = grow (putRow (Value.int .i64) (Sort.ahead w n) (m.at_ o) 0 ts.toArray) os) :
    HR w0 Zc m (upd ob o (some { x with cells := ts.map fun z => .t (.int .i64 z) })) cnt w' ∧ Ext w (vol m ob Zc) m ob w' (vol m (upd ob o (some { x with cells := ts.map fun z => .t (.int .i64 z) })) Zc) m (upd ob o (some { x with cells := ts.map fun z => .t (.int .i64 z) })) := by
  obtain ⟨hbase, arr, h1, h2, h3⟩ := h.obs o x ho hl
  rw [if_pos hrow] at h2
  have hg := grownBy_sortedI (w := w) (g := m.at_ o) (n := n) (os := os) ts.toArray
  rw [← hw] at hg
  have hh := heap_sortedI (n := n) (os := os) ts.toArray h1
  rw [← hw] at hh
  have hother : ∀ k, k < w.heap.size → k ≠ m.at_ o → w'.heap[k]? = w.heap[k]? := fun k hk hne => hg.block k hk (fun e => hne (by injection e))
  have hz : vol m ob Zc (m.at_ o) := .inr ⟨o, x, ho, hl, hf, rfl⟩
  have hvol : ∀ q, vol m (upd ob o (some { x with cells := ts.map fun z => .t (.int .i64 z) })) Zc q → vol m ob Zc q := by
    rintro q (hq | ⟨p, y, hpy, hyl, hyf, e⟩)
    · exact .inl hq
    · by_cases e' : p = o
      · subst e'
        exact .inr ⟨p, x, ho, hl, hf, e⟩
      · rw [upd_ne _ _ e'] at hpy
        exact .inr ⟨p, y, hpy, hyl, hyf, e⟩
  have ex : Ext w (vol m ob Zc) m ob w' (vol m (upd ob o (some { x with cells := ts.map fun z => .t (.int .i64 z) })) Zc) m (upd ob o (some { x with cells := ts.map fun z => .t (.int .i64 z) })) := by
    refine ⟨⟨fun k hk hlt => hother k hlt (fun e => hk (e ▸ hz)), fun k _ hk => hvol k hk, hg.size⟩, fun _ _ => rfl, fun _ _ => rfl, fun p y hp => ?_⟩
    by_cases e' : p = o
    · subst e'
      rw [ho] at hp
      injection hp with hp
      subst hp
      exact ⟨_, upd_same .., rfl, rfl⟩
    · exact ⟨y, by rw [upd_ne _ _ e']; exact hp, rfl, rfl⟩
  have hfit : zs.length ≤ arr.size := by
    have := h2.2.1
    have := h2.1
    rw [hesz] at this
    omega
  refine ⟨⟨h.below.trans ⟨hg.os, hg.tape, hg.output, hg.size, fun k hk => hother k (Nat.lt_of_lt_of_le hk h.size) (by omega)⟩, h.zc, fun nm g hgt => ?_, fun p y hp hyl => ?_, fun p y p' y' hp hyl hp' hyl' he => ?_⟩, ex⟩
  · have hnn := h.fresh nm g hgt
    rw [upd_ne _ _ (by rintro rfl; rw [ho] at hnn; cases hnn)]
    exact hnn
  · by_cases e' : p = o
    · subst e'
      rw [upd_same] at hp
      injection hp with hp
      subst hp
      refine ⟨hbase, _, hh, ?_, fun j v hv => ?_⟩
      · simp only [hrow, if_true]
        refine ⟨by simp [putCells]; exact h2.1, h2.2.1, h2.2.2.1, by simp [hlen, hn, hesz], h2.2.2.2.2.1, fun v hv => ?_⟩
        obtain ⟨z, _, rfl⟩ := List.mem_map.1 hv
        exact ⟨_, rfl⟩
      · simp only [List.getElem?_map, Option.map_eq_some_iff] at hv
        obtain ⟨z, hz', rfl⟩ := hv
        have ht := take_putCellsI arr ts (by omega)
        have hj : j < ts.length := (List.getElem?_eq_some_iff.1 hz').1
        have h5 : ((putCells (Value.int .i64) 0 ts.toArray arr).toList.take ts.length)[j]? = (ts.map (Value.int .i64))[j]? := by rw [ht]
        rw [List.getElem?_take_of_lt hj, Array.getElem?_toList] at h5
        refine ⟨.int .i64 z, by rw [h5]; simp [hz'], rfl, CR.int _ _⟩
    · rw [upd_ne _ _ e'] at hp
      refine OR.ext ex (by rw [hp]; simp) (hother _ (h.at_lt hp hyl) fun e => e' (h.inj p y o x hp hyl ho hl e)) (h.obs p y hp hyl)
  · have back : ∀ (p : Nm) (y : Ob), upd ob o (some { x with cells := ts.map fun z => .t (.int .i64 z) }) p = some y → y.live = true → ∃ z, ob p = some z ∧ z.live = true := by
      intro p y hp hyl
      by_cases e' : p = o
      · subst e'
        exact ⟨x, ho, hl⟩
      · rw [upd_ne _ _ e'] at hp
        exact ⟨y, hp, hyl⟩
    obtain ⟨z, q1, q2⟩ := back p y hp hyl
    obtain ⟨z', q1', q2'⟩ := back p' y' hp' hyl'
    exact h.inj p z p' z' q1 q2 q1' q2' he

theorem holds_row (h : HR w0 Zc m ob cnt w) {o : Nm} {x : Ob} {zs : List Int} (ho : ob o = some x) (hl : x.live = true) (hrow : x.isRow = true) (hc : x.cells = zs.map fun z => .t (.int .i64 z)) : Holds (Value.int .i64) w (m.at_ o) 0 zs.toArray := by
  obtain ⟨hbase, arr, h1, h2, h3⟩ := h.obs o x ho hl
  refine holds_of_blockI h1 ?_
  apply List.ext_getElem?
  intro j
  by_cases hj : j < zs.length
  · rw [List.getElem?_take_of_lt hj, Array.getElem?_toList]
    obtain ⟨u, g1, _, g3⟩ := h3 j (.t (.int .i64 zs[j])) (by rw [hc]; simp [hj])
    rw [g1]
    have : u = .int .i64 zs[j] := by
      cases (show CR w (vol m ob Zc) (.int .i64 zs[j]) u from g3)
      rfl
    rw [this]
    simp [hj]
  · rw [List.getElem?_take_eq_none (by omega), List.getElem?_eq_none (by simp; omega)]

/-- What the library says of its sort. -/
def SortSaid (P : Program) (f : FuncId) : Prop := (∀ (blk cap : Nat) (zs : List Int) (w : World), Holds (Value.int .i64) w blk 0 zs.toArray → blk < w.heap.size → zs.length < 4611686018427387904 →
    Calls P f #[.slice (some ⟨blk, 0, none⟩) zs.length cap] w fun e w' => e = .returned (.tuple #[]) ∧ ∃ n os, w' = grow (putRow (Value.int .i64) (Sort.ahead w n) blk 0 (zs.mergeSort fun x y => decide (x ≤ y)).toArray) os) ∧
  (∀ (p : Option Addr) (cap : Nat) (w : World), Calls P f #[.slice p 0 cap] w fun e w' => e = .returned (.tuple #[]) ∧ w' = w) ∧ callable P f = true

theorem callS_sort {f : FuncId} (hs : SortSaid P f) {R : AV → (Nm → Option Ob) → (Nat → Nat) → Prop} {o : Nm} {x : Ob} {zs : List Int} (ho : ob o = some x) (hl : x.live = true) (hrow : x.isRow = true) (hf : x.frz = false) (hesz : x.esz = 1) (hn : x.n = zs.length) (hc : x.cells = zs.map fun z => .t (.int .i64 z))
    (hbig : zs.length < 4611686018427387904) (hR : R (.tup []) (upd ob o (some { x with cells := (zs.mergeSort fun x y => decide (x ≤ y)).map fun z => .t (.int .i64 z) })) cnt) : CallS P f [.one (.row o)] ob cnt R := by
  refine ⟨hs.2.2, fun w0 Zc m w cargs hr hlen hargs => ?_⟩
  have h0 : cargs.size = 1 := by simpa using hlen.symm
  obtain ⟨x', hx', _, hv⟩ := hargs 0 (.one (.row o)) cargs[0] rfl (by simp [h0])
  rw [ho] at hx'
  injection hx' with hx'
  subst hx'
  have e : cargs = #[.slice (some ⟨m.at_ o, 0, none⟩) zs.length (m.cap o)] := by
    rw [hn] at hv
    apply Array.ext (by simp [h0])
    intro i h1 h2
    have : i = 0 := by omega
    subst this
    simpa using hv
  rw [e]
  refine (hs.1 (m.at_ o) (m.cap o) zs w (holds_row hr ho hl hrow hc) (hr.at_lt ho hl) hbig).mono ?_
  rintro e w' ⟨rfl, n, os, hw⟩
  obtain ⟨g1, g2⟩ := hr_put hr ho hl hrow hf hesz hn hc (by simp) hw
  exact ⟨_, _, _, _, m, rfl, hR, g1, g2, #[], rfl, rfl, fun j s u hs => by simp at hs⟩

theorem callS_sort_nil {f : FuncId} (hs : SortSaid P f) {R : AV → (Nm → Option Ob) → (Nat → Nat) → Prop} (hR : R (.tup []) ob cnt) : CallS P f [.one .nil] ob cnt R := by
  refine ⟨hs.2.2, fun w0 Zc m w cargs hr hlen hargs => ?_⟩
  have h0 : cargs.size = 1 := by simpa using hlen.symm
  obtain ⟨A, hv⟩ := hargs 0 (.one .nil) cargs[0] rfl (by simp [h0])
  have e : cargs = #[.slice A 0 0] := by
    apply Array.ext (by simp [h0])
    intro i h1 h2
    have : i = 0 := by omega
    subst this
    simpa using hv
  rw [e]
  refine (hs.2.1 A 0 w).mono ?_
  rintro e w' ⟨rfl, rfl⟩
  exact ⟨_, _, ob, cnt, m, rfl, hR, hr, Ext.refl .., #[], rfl, rfl, fun j s u hs => by simp at hs⟩

/-- A row is cut: the old name is dead, a new one stands for what is left. -/
theorem hr_cut (h : HR w0 Zc m ob cnt w) {o : Nm} {x : Ob} (k nm : Nat) (ho : ob o = some x) (hl : x.live = true) (hrow : x.isRow = true) (hf : x.frz = false) (hesz : x.esz = 1) (hk : k ≤ x.n) :
    HR w0 Zc (m.set (nm, cnt nm) (m.at_ o) (m.cap o)) (upd (upd ob o (some { x with live := false })) (nm, cnt nm) (some { x with n := k, cells := x.cells.take k })) (upd cnt nm (cnt nm + 1)) w ∧
      Ext w (vol m ob Zc) m ob w (vol (m.set (nm, cnt nm) (m.at_ o) (m.cap o)) (upd (upd ob o (some { x with live := false })) (nm, cnt nm) (some { x with n := k, cells := x.cells.take k })) Zc) (m.set (nm, cnt nm) (m.at_ o) (m.cap o))
        (upd (upd ob o (some { x with live := false })) (nm, cnt nm) (some { x with n := k, cells := x.cells.take k })) := by
  have hfr : ob (nm, cnt nm) = none := h.fresh nm _ (Nat.le_refl _)
  have hno : o ≠ (nm, cnt nm) := fun e => by rw [← e, ho] at hfr; cases hfr
  have hne : ∀ p, ob p ≠ none → p ≠ (nm, cnt nm) := fun p hp e => hp (e ▸ hfr)
  have get : ∀ (p : Nm) (y : Ob), upd (upd ob o (some { x with live := false })) (nm, cnt nm) (some { x with n := k, cells := x.cells.take k }) p = some y → y.live = true → (p = (nm, cnt nm) ∧ y = { x with n := k, cells := x.cells.take k }) ∨ (p ≠ (nm, cnt nm) ∧ p ≠ o ∧ ob p = some y) := by
    intro p y hp hyl
    by_cases e1 : p = (nm, cnt nm)
    · subst e1
      rw [upd_same] at hp
      injection hp with hp
      exact .inl ⟨rfl, hp.symm⟩
    · rw [upd_ne _ _ e1] at hp
      by_cases e2 : p = o
      · subst e2
        rw [upd_same] at hp
        injection hp with hp
        subst hp
        cases hyl
      · rw [upd_ne _ _ e2] at hp
        exact .inr ⟨e1, e2, hp⟩
  have at_new : (m.set (nm, cnt nm) (m.at_ o) (m.cap o)).at_ (nm, cnt nm) = m.at_ o := by simp [Map.set, upd_same]
  have cap_new : (m.set (nm, cnt nm) (m.at_ o) (m.cap o)).cap (nm, cnt nm) = m.cap o := by simp [Map.set, upd_same]
  have at_old : ∀ p, p ≠ (nm, cnt nm) → (m.set (nm, cnt nm) (m.at_ o) (m.cap o)).at_ p = m.at_ p := fun p hp => upd_ne _ _ hp
  have cap_old : ∀ p, p ≠ (nm, cnt nm) → (m.set (nm, cnt nm) (m.at_ o) (m.cap o)).cap p = m.cap p := fun p hp => upd_ne _ _ hp
  have ex : Ext w (vol m ob Zc) m ob w (vol (m.set (nm, cnt nm) (m.at_ o) (m.cap o)) (upd (upd ob o (some { x with live := false })) (nm, cnt nm) (some { x with n := k, cells := x.cells.take k })) Zc) (m.set (nm, cnt nm) (m.at_ o) (m.cap o))
        (upd (upd ob o (some { x with live := false })) (nm, cnt nm) (some { x with n := k, cells := x.cells.take k })) := by
    refine ⟨⟨fun _ _ _ => rfl, fun b _ hb => ?_, Nat.le_refl _⟩, fun p hp => at_old p (hne p hp), fun p hp => cap_old p (hne p hp), fun p y hp => ?_⟩
    · rcases hb with hb | ⟨p, y, hp, hyl, hyf, e⟩
      · exact .inl hb
      · rcases get p y hp hyl with ⟨rfl, rfl⟩ | ⟨e1, e2, hp'⟩
        · exact .inr ⟨o, x, ho, hl, hf, by rw [← e, at_new]⟩
        · exact .inr ⟨p, y, hp', hyl, hyf, by rw [← e, at_old p e1]⟩
    · rw [upd_ne _ _ (hne p (by rw [hp]; simp))]
      by_cases e2 : p = o
      · subst e2
        rw [ho] at hp
        injection hp with hp
        subst hp
        exact ⟨_, upd_same .., rfl, rfl⟩
      · exact ⟨y, by rw [upd_ne _ _ e2]; exact hp, rfl, rfl⟩
  refine ⟨⟨h.below, h.zc, fun n g hg => ?_, fun p y hp hyl => ?_, fun p y p' y' hp hyl hp' hyl' he => ?_⟩, ex⟩
  · by_cases e1 : n = nm
    · subst e1
      rw [upd_same] at hg
      rw [upd_ne _ _ (by intro e2; injection e2; omega)]
      have := h.fresh n g (by omega)
      rw [upd_ne _ _ (by rintro rfl; rw [ho] at this; cases this)]
      exact this
    · rw [upd_ne _ _ e1] at hg
      rw [upd_ne _ _ (by intro e2; injection e2; exact e1 (by assumption))]
      have := h.fresh n g hg
      rw [upd_ne _ _ (by rintro rfl; rw [ho] at this; cases this)]
      exact this
  · rcases get p y hp hyl with ⟨rfl, rfl⟩ | ⟨e1, e2, hp'⟩
    · obtain ⟨b1, arr, b2, b3, b4⟩ := h.obs o x ho hl
      rw [if_pos hrow] at b3
      refine ⟨by rw [at_new]; exact b1, arr, by rw [at_new]; exact b2, ?_, fun j v hv => ?_⟩
      · simp only [hrow, if_true, cap_new]
        refine ⟨b3.1, by omega, b3.2.2.1, ?_, b3.2.2.2.2.1, fun v hv => b3.2.2.2.2.2 v (List.mem_of_mem_take hv)⟩
        rw [List.length_take, b3.2.2.2.1, hesz]
        omega
      · simp only at hv
        rw [List.getElem?_take] at hv
        split at hv
        · obtain ⟨u, c1, c2, c3⟩ := b4 j v hv
          exact ⟨u, c1, c2, V1R.ext ex c3⟩
        · cases hv
    · exact OR.ext ex (by rw [hp']; simp) rfl (h.obs p y hp' hyl)
  · rcases get p y hp hyl with ⟨rfl, rfl⟩ | ⟨e1, e2, hq⟩ <;> rcases get p' y' hp' hyl' with ⟨rfl, rfl⟩ | ⟨e1', e2', hq'⟩
    · rfl
    · rw [at_new, at_old p' e1'] at he
      exact absurd (h.inj o x p' y' ho hl hq' hyl' he).symm e2'
    · rw [at_new, at_old p e1] at he
      exact absurd (h.inj p y o x hq hyl ho hl he) e2
    · rw [at_old p e1, at_old p' e1'] at he
      exact h.inj p y p' y' hq hyl hq' hyl' he

/-- What the library says of leaving out what repeats. -/
def CompSaid (P : Program) (f : FuncId) : Prop := (∀ (blk cap : Nat) (zs : List Int) (w : World), Holds (Value.int .i64) w blk 0 zs.toArray → zs.length ≤ 9223372036854775807 → zs.length ≤ cap →
    Calls P f #[.slice (some ⟨blk, 0, none⟩) zs.length cap] w fun e w' => e = .returned (.slice (some ⟨blk, 0, none⟩) (Lib.compact zs).length cap) ∧ ∃ q, w' = putRow (Value.int .i64) (Sort.ahead w q) blk 0 (Lib.compact zs ++ List.replicate (zs.length - (Lib.compact zs).length) 0).toArray) ∧
  (∀ (p : Option Addr) (cap : Nat) (w : World), Calls P f #[.slice p 0 cap] w fun e w' => e = .returned (.slice p 0 cap) ∧ w' = w) ∧ callable P f = true

theorem compact_le (zs : List Int) : (Lib.compact zs).length ≤ zs.length := by
  simp only [Lib.compact, Lib.compactUpTo, List.length_map]
  exact Nat.le_trans (List.length_filter_le _ _) (by simp)

theorem callS_compact {f : FuncId} (hs : CompSaid P f) {R : AV → (Nm → Option Ob) → (Nat → Nat) → Prop} {o : Nm} {x : Ob} {zs ts : List Int} (nm : Nat) (ho : ob o = some x) (hl : x.live = true) (hrow : x.isRow = true) (hf : x.frz = false) (hesz : x.esz = 1) (hn : x.n = zs.length) (hc : x.cells = zs.map fun z => .t (.int .i64 z))
    (hbig : zs.length ≤ 9223372036854775807) (hts : ts = Lib.compact zs ++ List.replicate (zs.length - (Lib.compact zs).length) 0)
    (hR : R (.one (.row (nm, cnt nm))) (upd (upd (upd ob o (some { x with cells := ts.map fun z => .t (.int .i64 z) })) o (some { x with live := false, cells := ts.map fun z => .t (.int .i64 z) })) (nm, cnt nm) (some { x with n := (Lib.compact zs).length, cells := (Lib.compact zs).map fun z => .t (.int .i64 z) })) (upd cnt nm (cnt nm + 1))) : CallS P f [.one (.row o)] ob cnt R := by
  refine ⟨hs.2.2, fun w0 Zc m w cargs hr hlen hargs => ?_⟩
  have h0 : cargs.size = 1 := by simpa using hlen.symm
  obtain ⟨x', hx', _, hv⟩ := hargs 0 (.one (.row o)) cargs[0] rfl (by simp [h0])
  rw [ho] at hx'
  injection hx' with hx'
  subst hx'
  have e : cargs = #[.slice (some ⟨m.at_ o, 0, none⟩) zs.length (m.cap o)] := by
    rw [hn] at hv
    apply Array.ext (by simp [h0])
    intro i h1 h2
    have : i = 0 := by omega
    subst this
    simpa using hv
  have hcap : zs.length ≤ m.cap o := by
    obtain ⟨_, arr, _, h2, _⟩ := hr.obs o x ho hl
    rw [if_pos hrow] at h2
    omega
  rw [e]
  refine (hs.1 (m.at_ o) (m.cap o) zs w (holds_row hr ho hl hrow hc) hbig hcap).mono ?_
  have hcl := compact_le zs
  have htl : ts.length = zs.length := by
    rw [hts]
    simp
    omega
  rintro e w' ⟨rfl, n, hw⟩
  obtain ⟨g1, g2⟩ := hr_put (w' := w') (ts := ts) (n := n) (os := #[]) hr ho hl hrow hf hesz hn hc htl (by rw [grow_empty, hts]; exact hw)
  obtain ⟨k1, k2⟩ := hr_cut g1 (o := o) (x := { x with cells := ts.map fun z => .t (.int .i64 z) }) (Lib.compact zs).length nm (upd_same ..) hl hrow hf hesz (show _ ≤ x.n by omega)
  have et : (ts.map fun z => V1.t (.int .i64 z)).take (Lib.compact zs).length = (Lib.compact zs).map fun z => .t (.int .i64 z) := by
    rw [← List.map_take, hts, List.take_left]
  simp only [et] at k1 k2
  refine ⟨_, _, _, _, _, rfl, hR, k1, g2.trans k2, ?_⟩
  exact ⟨_, upd_same .., hrow, by simp [Map.set, upd_same]⟩

theorem callS_compact_nil {f : FuncId} (hs : CompSaid P f) {R : AV → (Nm → Option Ob) → (Nat → Nat) → Prop} (hR : R (.one .nil) ob cnt) : CallS P f [.one .nil] ob cnt R := by
  refine ⟨hs.2.2, fun w0 Zc m w cargs hr hlen hargs => ?_⟩
  have h0 : cargs.size = 1 := by simpa using hlen.symm
  obtain ⟨A, hv⟩ := hargs 0 (.one .nil) cargs[0] rfl (by simp [h0])
  have e : cargs = #[.slice A 0 0] := by
    apply Array.ext (by simp [h0])
    intro i h1 h2
    have : i = 0 := by omega
    subst this
    simpa using hv
  rw [e]
  refine (hs.2.1 A 0 w).mono ?_
  rintro e w' ⟨rfl, rfl⟩
  exact ⟨_, .one .nil, ob, cnt, m, rfl, hR, hr, Ext.refl .., A, rfl⟩
end
end Go.Proofs.YthcnpnogfblkcaaGreat.Abs

/- Lists whose rows may bear one of several names: appending, sorting, leaving out what repeats; calls that return such a list. -/
namespace Go.Proofs.YthcnpnogfblkcaaGreat.Abs
open Go.RowKit Go.Sort
set_option linter.unusedVariables false
set_option linter.unusedSimpArgs false

/-- A list that appends have built, under one of these names: nil, or a row of its own. -/
def outL (nms : List Nat) (typ esz n : Nat) (cs : List C) (ob : Nm → Option Ob) (v : AV) : Prop :=
  (n = 0 ∧ cs = [] ∧ v = .one .nil) ∨ (0 < n ∧ ∃ nm ∈ nms, ∃ g, v = .one (.row (nm, g)) ∧ ob (nm, g) = some ⟨true, true, false, esz, n, typ, cs.map .t⟩)

theorem outL_nil {nms : List Nat} {typ esz : Nat} {ob : Nm → Option Ob} : outL nms typ esz 0 [] ob (.one .nil) := .inl ⟨rfl, rfl, rfl⟩

theorem outL.keep {nms : List Nat} {typ esz n : Nat} {cs : List C} {ob ob' : Nm → Option Ob} {v : AV} (h : outL nms typ esz n cs ob v) (ho : ∀ nm ∈ nms, ∀ g, ob' (nm, g) = ob (nm, g)) : outL nms typ esz n cs ob' v := by
  rcases h with h | ⟨h1, nm, hm, g, h2, h3⟩
  · exact .inl h
  · exact .inr ⟨h1, nm, hm, g, h2, by rw [ho nm hm]; exact h3⟩

theorem outL.wide {nms nms' : List Nat} {typ esz n : Nat} {cs : List C} {ob : Nm → Option Ob} {v : AV} (h : outL nms typ esz n cs ob v) (hs : ∀ x ∈ nms, x ∈ nms') : outL nms' typ esz n cs ob v := by
  rcases h with h | ⟨h1, nm, hm, g, h2, h3⟩
  · exact .inl h
  · exact .inr ⟨h1, nm, hs nm hm, g, h2, h3⟩

theorem outL.one {nms : List Nat} {typ esz n : Nat} {cs : List C} {ob : Nm → Option Ob} {v : AV} (h : outL nms typ esz n cs ob v) : ∃ u, v = .one u := by
  rcases h with ⟨_, _, h⟩ | ⟨_, nm, _, g, h, _⟩
  · exact ⟨_, h⟩
  · exact ⟨_, h⟩

theorem outL.rowIs {nms : List Nat} {typ esz n : Nat} {cs : List C} {ob : Nm → Option Ob} {v : AV} (h : outL nms typ esz n cs ob v) : Abs.rowIs typ esz n cs ob v := by
  rcases h with ⟨h1, _, h2⟩ | ⟨h1, nm, _, g, h2, h3⟩
  · exact .inl ⟨h1, h2⟩
  · exact .inr ⟨h1, _, _, h2, h3, rfl, rfl, rfl, rfl, rfl, rfl⟩

theorem outL.slice {nms : List Nat} {typ esz n : Nat} {cs : List C} {ob : Nm → Option Ob} {v : AV} (h : outL nms typ esz n cs ob v) (fr : Nat → AV) (cnt : Nat → Nat) : sliceOf ⟨fr, ob, cnt⟩ v = some (n, cs.map .t) := by
  rcases h with ⟨rfl, rfl, rfl⟩ | ⟨h1, nm, _, g, rfl, h3⟩
  · rfl
  · simp [sliceOf, St.live, h3]

theorem kApp_growL {nms : List Nat} {nm typ esz bytes n k : Nat} {cs ts : List C} {v : AV} {S : St} {K : Eff → Prop} {news : List V1} (hm : nm ∈ nms) (hnews : news = ts.map .t) (h : outL nms typ esz n cs S.ob v) (hl : ts.length = k * esz) (hb : (n + k) * bytes ≤ 140737488355328) (hn : n + k ≤ 9000000000000000000)
    (hK : ∀ E : Eff, outL nms typ esz (n + k) (cs ++ ts) E.ob E.v → (∀ a g, a ∉ nms → E.ob (a, g) = S.ob (a, g)) → (∀ a, a ∉ nms → E.cnt a = S.cnt a) → K E) : kApp nm typ esz bytes v (some (k, news)) S K := by
  subst hnews
  unfold kApp evApp
  simp only [trees_t, List.length_map]
  rcases h with ⟨rfl, rfl, rfl⟩ | ⟨h1, nm', hm', g, rfl, h3⟩
  · simp only
    rw [if_pos ⟨by simpa using hb, hl, by omega⟩]
    by_cases hk : k = 0
    · subst hk
      have : ts = [] := List.eq_nil_of_length_eq_zero (by simpa using hl)
      subst this
      rw [if_pos rfl]
      exact ⟨_, rfl, hK _ (.inl ⟨rfl, rfl, rfl⟩) (fun _ _ _ => rfl) fun _ _ => rfl⟩
    rw [if_neg hk]
    refine ⟨_, rfl, hK _ (.inr ⟨by omega, nm, hm, S.cnt nm, rfl, ?_⟩) (fun a g ha => ?_) (fun a ha => ?_)⟩
    · simp [St.new, upd_same]
    · simp only [St.new]
      exact upd_ne _ _ (fun e => ha (by cases e; exact hm))
    · simp only [St.new]
      exact upd_ne _ _ (fun e => ha (e ▸ hm))
  · simp only [St.live, h3, if_true]
    rw [if_pos ⟨trivial, trivial, trivial, trivial, hb, hl, by omega⟩]
    refine ⟨_, rfl, hK _ (.inr ⟨by omega, nm, hm, S.cnt nm, rfl, ?_⟩) (fun a g' ha => ?_) (fun a ha => ?_)⟩
    · simp [upd_same]
    · show upd (upd S.ob (nm', g) _) (nm, S.cnt nm) _ (a, g') = _
      rw [upd_ne _ _ (fun e => ha (by cases e; exact hm)), upd_ne _ _ (fun e => ha (by cases e; exact hm'))]
    · exact upd_ne _ _ (fun e => ha (e ▸ hm))

theorem kApp_nil {nm typ esz bytes k : Nat} {ts : List C} {news : List V1} {S : St} {K : Eff → Prop} (hnews : news = ts.map .t) (hl : ts.length = k * esz) (hb : k * bytes ≤ 140737488355328) (hn : k ≤ 9000000000000000000)
    (hK : K (rowEff S nm typ esz k ts)) : kApp nm typ esz bytes (.one .nil) (some (k, news)) S K := by
  subst hnews
  unfold kApp evApp
  simp only [trees_t, List.length_map]
  rw [if_pos ⟨hb, hl, by omega⟩]
  unfold rowEff at hK
  split
  · rename_i h
    rw [if_pos h] at hK
    exact ⟨_, rfl, hK⟩
  · rename_i h
    rw [if_neg h] at hK
    exact ⟨_, rfl, hK⟩

theorem rowEff_outL {S : St} {nm typ esz n : Nat} {cs : List C} (hl : cs.length = n * esz) : outL [nm] typ esz n cs (rowEff S nm typ esz n cs).ob (rowEff S nm typ esz n cs).v ∧ (∀ a g, a ≠ nm → (rowEff S nm typ esz n cs).ob (a, g) = S.ob (a, g)) ∧ (∀ a, a ≠ nm → (rowEff S nm typ esz n cs).cnt a = S.cnt a) := by
  unfold rowEff
  split
  · rename_i h
    subst h
    have : cs = [] := List.eq_nil_of_length_eq_zero (by simpa using hl)
    subst this
    exact ⟨outL_nil, fun _ _ _ => rfl, fun _ _ => rfl⟩
  · refine ⟨.inr ⟨by omega, nm, by simp, S.cnt nm, rfl, by simp [St.new, upd_same]⟩, fun a g ha => ?_, fun a ha => ?_⟩
    · exact upd_ne _ _ (fun e => ha (Prod.mk.inj e).1)
    · exact upd_ne _ _ ha

theorem dCall_rowL {P : Program} {S : St} {K : Eff → Prop} {g : FuncId} {nm : Nat} {args : List AV} {targs : List TV} {typ esz n : Nat} {cs : List C} (h : CallRow P g targs typ esz n cs) (ht : argTrees ⟨fun _ => .undef, S.ob, S.cnt⟩ args = some targs)
    (hk : ∀ E : Eff, outL [nm] typ esz n cs E.ob E.v → (∀ a g, a ≠ nm → E.ob (a, g) = S.ob (a, g)) → (∀ a, a ≠ nm → E.cnt a = S.cnt a) → K E) : dCall P (.one (.fn g [])) nm args S K :=
  dCall_row h ht (hk _ (rowEff_outL h.2.2.1).1 (rowEff_outL h.2.2.1).2.1 (rowEff_outL h.2.2.1).2.2)

theorem callS_rowL {P : Program} {f : FuncId} {args : List AV} {targs : List TV} {typ esz n : Nat} {cs : List C} {ob : Nm → Option Ob} {cnt : Nat → Nat} {R : AV → (Nm → Option Ob) → (Nat → Nat) → Prop} (nm : Nat) (h : CallRow P f targs typ esz n cs)
    (ht : argTrees ⟨fun _ => .undef, ob, cnt⟩ args = some targs) (hR : ∀ v ob' cnt', outL [nm] typ esz n cs ob' v → (∀ a g, a ≠ nm → ob' (a, g) = ob (a, g)) → (∀ a, a ≠ nm → cnt' a = cnt a) → R v ob' cnt') : CallS P f args ob cnt R :=
  callS_row nm h ht (hR _ _ _ (rowEff_outL h.2.2.1).1 (rowEff_outL h.2.2.1).2.1 (rowEff_outL h.2.2.1).2.2)

section
variable {P : Program} {w w' w0 : World} {Zc : Nat → Prop} {m : Map} {ob : Nm → Option Ob} {cnt : Nat → Nat}

/-- A row is not used any more. -/
theorem hr_kill (h : HR w0 Zc m ob cnt w) {o : Nm} {x : Ob} (ho : ob o = some x) : HR w0 Zc m (upd ob o (some { x with live := false })) cnt w ∧
    Ext w (vol m ob Zc) m ob w (vol m (upd ob o (some { x with live := false })) Zc) m (upd ob o (some { x with live := false })) := by
  have get : ∀ (p : Nm) (y : Ob), upd ob o (some { x with live := false }) p = some y → y.live = true → p ≠ o ∧ ob p = some y := by
    intro p y hp hyl
    by_cases e2 : p = o
    · subst e2
      rw [upd_same] at hp
      injection hp with hp
      subst hp
      cases hyl
    · rw [upd_ne _ _ e2] at hp
      exact ⟨e2, hp⟩
  have ex : Ext w (vol m ob Zc) m ob w (vol m (upd ob o (some { x with live := false })) Zc) m (upd ob o (some { x with live := false })) := by
    refine ⟨⟨fun _ _ _ => rfl, fun b _ hb => ?_, Nat.le_refl _⟩, fun _ _ => rfl, fun _ _ => rfl, fun p y hp => ?_⟩
    · rcases hb with hb | ⟨p, y, hp, hyl, hyf, e⟩
      · exact .inl hb
      · obtain ⟨e2, hp'⟩ := get p y hp hyl
        exact .inr ⟨p, y, hp', hyl, hyf, e⟩
    · by_cases e2 : p = o
      · subst e2
        rw [ho] at hp
        injection hp with hp
        subst hp
        exact ⟨_, upd_same .., rfl, rfl⟩
      · exact ⟨y, by rw [upd_ne _ _ e2]; exact hp, rfl, rfl⟩
  refine ⟨⟨h.below, h.zc, fun n g hg => ?_, fun p y hp hyl => ?_, fun p y p' y' hp hyl hp' hyl' he => ?_⟩, ex⟩
  · rw [upd_ne _ _ (by rintro rfl; rw [h.fresh n g hg] at ho; cases ho)]
    exact h.fresh n g hg
  · obtain ⟨e2, hp'⟩ := get p y hp hyl
    exact OR.ext ex (by rw [hp']; simp) rfl (h.obs p y hp' hyl)
  · exact h.inj p y p' y' (get p y hp hyl).2 hyl (get p' y' hp' hyl').2 hyl' he

/-- A row that is not used any more is a tree. -/
theorem dead_tree (h : HR w0 Zc m ob cnt w) {o : Nm} {x : Ob} {zs : List Int} (ho : ob o = some x) (hl : x.live = true) (hrow : x.isRow = true) (hesz : x.esz = 1) (hn : x.n = zs.length) (hc : x.cells = zs.map fun z => .t (.int .i64 z)) (k : Nat) (hk : k ≤ zs.length) :
    CR w (vol m (upd ob o (some { x with live := false })) Zc) (ints (zs.take k)) (.slice (some ⟨m.at_ o, 0, none⟩) k (m.cap o)) := by
  obtain ⟨hbase, arr, h1, h2, h3⟩ := h.obs o x ho hl
  rw [if_pos hrow] at h2
  have hcell : ∀ j, j < k → arr[j]? = some (.int .i64 (zs.getD j 0)) := by
    intro j hj
    have hj' : j < zs.length := by omega
    obtain ⟨u, g1, _, g3⟩ := h3 j (.t (.int .i64 zs[j])) (by rw [hc]; simp [hj'])
    rw [g1]
    have : u = .int .i64 zs[j] := by
      cases (show CR w (vol m ob Zc) (.int .i64 zs[j]) u from g3)
      rfl
    rw [this]
    simp [hj']
  have el : k = (zs.take k).length := by simp; omega
  have e : ints (zs.take k) = .sl k ((zs.take k).map (.int .i64)) := by rw [ints, ← el]
  rw [e]
  refine .sl k (m.cap o) _ (some ⟨m.at_ o, 0, none⟩) (fun j => .int .i64 (zs.getD j 0)) (by omega) (fun _ => ⟨_, rfl, fun hz => ?_, fun j hj => ?_⟩) (fun j c hj => ?_)
  · rcases hz with hz | ⟨p, y, hp, hyl, hyf, e⟩
    · have := h.zc _ hz
      simp only at this
      omega
    · by_cases e2 : p = o
      · subst e2
        rw [upd_same] at hp
        injection hp with hp
        subst hp
        cases hyl
      · rw [upd_ne _ _ e2] at hp
        exact e2 (h.inj p y o x hp hyl ho hl e)
  · have hj' : j < k := by simp at hj; omega
    rw [add_ptr, Nat.zero_add, cell_of_row w _ _ _ _ _ h1]
    exact hcell j hj'
  · simp only [List.getElem?_map, Option.map_eq_some_iff] at hj
    obtain ⟨z, hz, rfl⟩ := hj
    have hz' : j < (zs.take k).length := (List.getElem?_eq_some_iff.1 hz).1
    have hj' : j < zs.length := by simp at hz'; omega
    rw [List.getElem?_take_of_lt (by omega)] at hz
    have : zs.getD j 0 = z := by simp [List.getD_eq_getElem?_getD, hz]
    rw [this]
    exact .int _ _

theorem callS_sortL {f : FuncId} (hs : SortSaid P f) {R : AV → (Nm → Option Ob) → (Nat → Nat) → Prop} {nms : List Nat} {typ : Nat} {zs : List Int} {v : AV} (h : outL nms typ 1 zs.length (zs.map (.int .i64)) ob v) (hbig : zs.length < 4611686018427387904)
    (hR : ∀ ob', outL nms typ 1 (zs.mergeSort fun x y => decide (x ≤ y)).length ((zs.mergeSort fun x y => decide (x ≤ y)).map (.int .i64)) ob' v → (∀ a g, a ∉ nms → ob' (a, g) = ob (a, g)) → R (.tup []) ob' cnt) : CallS P f [v] ob cnt R := by
  rcases h with ⟨h1, h2, rfl⟩ | ⟨h1, nm, hm, g, rfl, h3⟩
  · have : zs = [] := List.eq_nil_of_length_eq_zero h1
    subst this
    exact callS_sort_nil hs (hR _ (.inl ⟨by simp, by simp, rfl⟩) fun _ _ _ => rfl)
  · refine callS_sort (zs := zs) hs h3 rfl rfl rfl rfl rfl (by simp) hbig (hR _ (.inr ⟨by simpa using h1, nm, hm, g, rfl, ?_⟩) fun a g' ha => ?_)
    · rw [upd_same]
      simp
    · exact upd_ne _ _ (fun e => ha (by cases e; exact hm))

theorem callS_compactL {f : FuncId} (hs : CompSaid P f) {R : AV → (Nm → Option Ob) → (Nat → Nat) → Prop} {nms : List Nat} {typ : Nat} {zs : List Int} {v : AV} (h : outL nms typ 1 zs.length (zs.map (.int .i64)) ob v) (hbig : zs.length ≤ 9223372036854775807)
    (hR : ∀ ob', (∀ a g, a ∉ nms → ob' (a, g) = ob (a, g)) → R (.one (.t (ints (Lib.compact zs)))) ob' cnt) : CallS P f [v] ob cnt R := by
  rcases h with ⟨h1, h2, rfl⟩ | ⟨h1, nm, hm, g, rfl, h3⟩
  · have : zs = [] := List.eq_nil_of_length_eq_zero h1
    subst this
    refine ⟨hs.2.2, fun w0 Zc m w cargs hr hlen hargs => ?_⟩
    have h0 : cargs.size = 1 := by simpa using hlen.symm
    obtain ⟨A, hv⟩ := hargs 0 (.one .nil) cargs[0] rfl (by simp [h0])
    have e : cargs = #[.slice A 0 0] := by
      apply Array.ext (by simp [h0])
      intro i h1 h2
      have : i = 0 := by omega
      subst this
      simpa using hv
    rw [e]
    refine (hs.2.1 A 0 w).mono ?_
    rintro e w' ⟨rfl, rfl⟩
    refine ⟨_, _, ob, cnt, m, rfl, hR ob fun _ _ _ => rfl, hr, Ext.refl .., ?_⟩
    exact .sl 0 0 [] A (fun _ => default) (Nat.le_refl _) (fun h => by simp at h) (fun j c h => by simp at h)
  · refine ⟨hs.2.2, fun w0 Zc m w cargs hr hlen hargs => ?_⟩
    have h0 : cargs.size = 1 := by simpa using hlen.symm
    obtain ⟨x', hx', _, hv⟩ := hargs 0 (.one (.row (nm, g))) cargs[0] rfl (by simp [h0])
    rw [h3] at hx'
    injection hx' with hx'
    subst hx'
    have e : cargs = #[.slice (some ⟨m.at_ (nm, g), 0, none⟩) zs.length (m.cap (nm, g))] := by
      apply Array.ext (by simp [h0])
      intro i h1 h2
      have : i = 0 := by omega
      subst this
      simpa using hv
    have hcap : zs.length ≤ m.cap (nm, g) := by
      obtain ⟨_, arr, _, h2, _⟩ := hr.obs _ _ h3 rfl
      rw [if_pos rfl] at h2
      exact h2.2.1
    rw [e]
    refine (hs.1 (m.at_ (nm, g)) (m.cap (nm, g)) zs w (holds_row hr h3 rfl rfl (by simp)) hbig hcap).mono ?_
    have hcl := compact_le zs
    rintro e w' ⟨rfl, n, hw⟩
    obtain ⟨g1, g2⟩ := hr_put (w' := w') (zs := zs) (ts := Lib.compact zs ++ List.replicate (zs.length - (Lib.compact zs).length) 0) (n := n) (os := #[]) hr h3 rfl rfl rfl rfl rfl (by simp) (by simp; omega) (by rw [grow_empty]; exact hw)
    obtain ⟨k1, k2⟩ := hr_kill g1 (upd_same ..)
    have hd := dead_tree g1 (zs := Lib.compact zs ++ List.replicate (zs.length - (Lib.compact zs).length) 0) (upd_same ..) rfl rfl rfl (by simp; omega) rfl (Lib.compact zs).length (by simp)
    rw [List.take_left] at hd
    refine ⟨_, .one (.t (ints (Lib.compact zs))), _, cnt, m, rfl, hR _ fun a g' ha => ?_, k1, g2.trans k2, hd⟩
    rw [upd_ne _ _ (fun e => ha (by cases e; exact hm)), upd_ne _ _ (fun e => ha (by cases e; exact hm))]
end

theorem untreeT (ts : List C) : untree (ts.map .t) = some ts := by
  induction ts with
  | nil => rfl
  | cons c r ih => simp [untree, ih]

theorem treeCell_row {fr : Nat → AV} {ob : Nm → Option Ob} {cnt : Nat → Nat} {o : Nm} {fz : Bool} {esz n typ : Nat} {cs : List C} (h : ob o = some ⟨true, true, fz, esz, n, typ, cs.map .t⟩) : treeCell ⟨fr, ob, cnt⟩ (.row o) = some (.sl n cs) := by
  simp [treeCell, St.live, h, untreeT]

theorem argTree_one {S : St} {v : V1} : argTree S (.one v) = (treeCell S v).map fun c => (false, [c]) := Eq.trans rfl rfl
theorem still_one {S : St} {v : V1} : AV.still S (.one v) = v.still S := Eq.trans rfl rfl
theorem treeCell_nil {S : St} : treeCell S .nil = some (.sl 0 []) := Eq.trans rfl rfl
theorem treeCell_t {S : St} {c : C} : treeCell S (.t c) = some c := Eq.trans rfl rfl

/-- A call that is given two lists that appends have built. -/
theorem callS_lists2 {P : Program} {f : FuncId} {x v1 v2 : AV} {tx : TV} {n1 n2 t1 t2 : Nat} {a b : List C} {nms1 nms2 : List Nat} {r : TR} {ob : Nm → Option Ob} {cnt : Nat → Nat} {R : AV → (Nm → Option Ob) → (Nat → Nat) → Prop}
    (h : CallOK P f [tx, (false, [.sl n1 a]), (false, [.sl n2 b])] r) (hx : ∀ ob cnt, argTree ⟨fun _ => .undef, ob, cnt⟩ x = some tx ∧ x.still ⟨fun _ => .undef, ob, cnt⟩ = true)
    (h1 : outL nms1 t1 1 n1 a ob v1) (h2 : outL nms2 t2 1 n2 b ob v2) (hd : ∀ nm ∈ nms1, nm ∉ nms2) (hR : ∀ ob', (∀ nm g, nm ∉ nms1 → nm ∉ nms2 → ob' (nm, g) = ob (nm, g)) → R r.av ob' cnt) : CallS P f [x, v1, v2] ob cnt R := by
  have hx1 := fun ob => (hx ob cnt).1
  have hx2 := fun ob => (hx ob cnt).2
  rcases h1 with ⟨rfl, rfl, rfl⟩ | ⟨p1, m1, q1, g1, rfl, o1⟩ <;> rcases h2 with ⟨rfl, rfl, rfl⟩ | ⟨p2, m2, q2, g2, rfl, o2⟩
  · refine callS_tree h ?_ ?_ (hR ob fun _ _ _ _ => rfl)
    · simp [argTrees, hx1, argTree_one, treeCell_nil]
    · simp [hx2, still_one, V1.still]
  · refine callS_freeze [(m2, g2)] (callS_tree h ?_ ?_ (hR _ fun nm g e1 e2 => ?_))
    · have e : frzAll [(m2, g2)] ob (m2, g2) = some ⟨true, true, true, 1, n2, t2, b.map .t⟩ := by simp [frzAll, frzOne, o2, upd_same]
      simp [argTrees, hx1, argTree_one, treeCell_row e, treeCell_nil]
    · simp [hx2, still_one, V1.still, St.live, frzAll, frzOne, o2, upd_same]
    · have : (nm, g) ≠ (m2, g2) := fun e => e2 (by cases e; exact q2)
      simp [frzAll, frzOne, o2, upd_ne _ _ this]
  · refine callS_freeze [(m1, g1)] (callS_tree h ?_ ?_ (hR _ fun nm g e1 e2 => ?_))
    · have e : frzAll [(m1, g1)] ob (m1, g1) = some ⟨true, true, true, 1, n1, t1, a.map .t⟩ := by simp [frzAll, frzOne, o1, upd_same]
      simp [argTrees, hx1, argTree_one, treeCell_row e, treeCell_nil]
    · simp [hx2, still_one, V1.still, St.live, frzAll, frzOne, o1, upd_same]
    · have : (nm, g) ≠ (m1, g1) := fun e => e1 (by cases e; exact q1)
      simp [frzAll, frzOne, o1, upd_ne _ _ this]
  · have hne : (m2, g2) ≠ (m1, g1) := fun e => hd _ q1 (by cases e; exact q2)
    have hne' : (m1, g1) ≠ (m2, g2) := fun e => hne e.symm
    have w1 : frzAll [(m1, g1), (m2, g2)] ob = upd (upd ob (m1, g1) (some ⟨true, true, true, 1, n1, t1, a.map .t⟩)) (m2, g2) (some ⟨true, true, true, 1, n2, t2, b.map .t⟩) := by
      simp [frzAll, frzOne, o1, upd_ne _ _ hne, o2]
    refine callS_freeze [(m1, g1), (m2, g2)] ?_
    rw [w1]
    refine callS_tree h ?_ ?_ (hR _ fun nm g e1 e2 => ?_)
    · have e : (upd (upd ob (m1, g1) (some ⟨true, true, true, 1, n1, t1, a.map .t⟩)) (m2, g2) (some ⟨true, true, true, 1, n2, t2, b.map .t⟩)) (m1, g1) = some ⟨true, true, true, 1, n1, t1, a.map .t⟩ := by rw [upd_ne _ _ hne', upd_same]
      simp [argTrees, hx1, argTree_one, treeCell_row e, treeCell_row (upd_same ..)]
    · simp [hx2, still_one, V1.still, St.live, upd_ne _ _ hne', upd_same]
    · have f1 : (nm, g) ≠ (m1, g1) := fun e => e1 (by cases e; exact q1)
      have f2 : (nm, g) ≠ (m2, g2) := fun e => e2 (by cases e; exact q2)
      rw [upd_ne _ _ f2, upd_ne _ _ f1]
end Go.Proofs.YthcnpnogfblkcaaGreat.Abs

/- Contracts: compositions, comparisons and copies of morphisms and graphs. -/
namespace Go.Proofs.YthcnpnogfblkcaaGreat
open Abs
set_option linter.unusedSimpArgs false
set_option linter.unusedVariables false
attribute [local simp] rn0 rn1 rn2 rn3 rn4 rn5 rn6 rn7 evOp nests Arg.ev St.val St.set St.new sliceOf binInt2 binInt AV.cells rdAt St.live retOf resOf resAll treeOf treeCell treeCells treeTups untree frameOf TV.av TR.av ints edgs prs fillV splice intsOf trees V1.tree bx Gr.v Pa.v

theorem take_succ_nth' {l : List Int} {k : Nat} (h : k < l.length) : l.take (k + 1) = l.take k ++ [nth l k] := by
  rw [List.take_succ_eq_append_getElem h, nth_eq h]

theorem untreeI (l : List Int) : untree (l.map (V1.t ∘ C.int .i64)) = some (l.map (C.int .i64)) := by
  rw [← List.map_map]
  exact untreeT _

/-- A list of places, each led on by another list. -/
def thru (l by' : List Int) : List Int := l.map fun x => nth by' x.toNat
theorem thru_len {l b : List Int} : (thru l b).length = l.length := by simp [thru]
theorem thru_nth {l b : List Int} {i : Nat} (h : i < l.length) : nth (thru l b) i = nth b (nth l i).toNat := by
  rw [nth_eq (by rw [thru_len]; exact h), nth_eq h]
  simp [thru]
theorem thru_succ {l b : List Int} {k : Nat} (h : k < l.length) : thru (l.take (k + 1)) b = thru (l.take k) b ++ [nth b (nth l k).toNat] := by
  rw [take_succ_nth' h]
  simp [thru]

/-- Every number of a list is a place of another one. -/
def placesIn (l : List Int) (n : Nat) : Prop := ∀ x ∈ l, 0 ≤ x ∧ x < n

/-- A list that is being filled: its first k are there, the others are 0. -/
def fillL (l : List Int) (k n : Nat) : List V1 := (l.take k).map (fun z => .t (.int .i64 z)) ++ List.replicate (n - k) (.t (.int .i64 0))
theorem fillL_zero {l : List Int} {n : Nat} : fillL l 0 n = List.replicate n (.t (.int .i64 0)) := by simp [fillL]
theorem fillL_all {l : List Int} {n : Nat} (h : l.length = n) : fillL l n n = (l.map (.int .i64)).map .t := by
  simp [fillL, ← h]
theorem fillL_len {l : List Int} {k n : Nat} (h : l.length = n) (hk : k ≤ n) : (fillL l k n).length = n := by simp [fillL]; omega
theorem fillL_set {l : List Int} {k n : Nat} (h : l.length = n) (hk : k < n) : (fillL l k n).take k ++ .t (.int .i64 (nth l k)) :: (fillL l k n).drop (k + 1) = fillL l (k + 1) n := by
  have e1 : ((l.take k).map fun z => V1.t (.int .i64 z)).length = k := by simp; omega
  simp only [fillL]
  rw [List.take_append_of_le_length (by omega), List.take_of_length_le (by omega), List.drop_append, List.drop_eq_nil_of_le (by omega), e1, List.nil_append, take_succ_nth' (by omega), List.map_append, List.append_assoc]
  congr 1
  simp
  omega

def c_sfollow : MFunc := ⟨27, [.tmp 4], .seq (.region [⟨some 4, .mv (.c (.one .nil)), none⟩]) (.seq (.region [⟨some 8, .mv (.tmp 0), none⟩, ⟨some 9, .len (.tmp 8), none⟩, ⟨some 10, .make 66 3 1 8 [.t (.int .i64 0)] (.tmp 9) (.tmp 9), none⟩, ⟨some 5, .mv (.tmp 10), none⟩]) (.seq (.seq (.region [⟨some 11, .mv (.tmp 0), none⟩, ⟨some 12, .len (.tmp 11), none⟩, ⟨some 13, .mv (.c (.one (.t (.int .i64 0)))), none⟩]) (.block 0 (.loop (.seq (.region [⟨some 14, .bin .lss (.tmp 13) (.tmp 12), none⟩]) (.seq (.cond (.tmp 14) .skip (.exit 0)) (.seq (.block 1 (.seq (.region [⟨some 15, .mv (.tmp 13), none⟩, ⟨some 16, .idxA 1 (.tmp 11) (.tmp 13), none⟩, ⟨some 17, .load false 1 (.tmp 16), none⟩, ⟨some 6, .mv (.tmp 15), none⟩, ⟨some 7, .mv (.tmp 17), none⟩]) (.region [⟨some 18, .mv (.tmp 5), none⟩, ⟨some 19, .mv (.tmp 6), none⟩, ⟨some 20, .mv (.tmp 1), none⟩, ⟨some 21, .mv (.tmp 7), none⟩, ⟨some 22, .idxA 1 (.tmp 20) (.tmp 21), none⟩, ⟨some 23, .load false 1 (.tmp 22), none⟩, ⟨some 24, .idxA 1 (.tmp 18) (.tmp 19), none⟩, ⟨none, .store 1 (.tmp 24) (.tmp 23), none⟩]))) (.region [⟨some 25, .bin .add (.tmp 13) (.c (.one (.t (.int .i64 1)))), none⟩, ⟨some 13, .mv (.tmp 25), none⟩]))))))) (.seq (.region [⟨some 26, .mv (.tmp 5), none⟩, ⟨some 4, .mv (.tmp 26), none⟩]) .ret)))⟩
theorem k_sfollow : cFn Tryz.prog Tryz.f83 = some c_sfollow := by kernel_rfl
theorem sfollow_ok (l b : List Int) (hl : tiny l.length) (h : placesIn l b.length) : CallOK Tryz.prog 83 [(false, [ints l]), (false, [ints b])] (.sv (false, [ints (thru l b)])) := by
  refine callOK_W (callS_W (by kernel_rfl) Tryz.func83 k_sfollow (callable_of Tryz.func83 (by kernel_rfl)) (by simp [c_sfollow]) ?_)
  have hl8 : l.length * 8 ≤ 140737488355328 := by simp only [tiny] at hl; omega
  have hl9 : (l.length : Int) ≤ 9223372036854775807 := by simp only [tiny] at hl; omega
  simp [c_sfollow, hl8, hl9]
  refine loopW_count 13 l.length (fun k S => S.fr 1 = .one (.t (ints b)) ∧ S.fr 5 = .one (.row (66, 0)) ∧ S.fr 11 = .one (.t (ints l)) ∧ S.fr 12 = .one (.t (.int .i64 l.length)) ∧ S.ob (66, 0) = some ⟨true, true, false, 1, l.length, 3, fillL (thru l b) k l.length⟩) hl.small ?_ ?_ ?_
  · simp [fillL_zero]
  · rintro k S hlt hw hc ⟨f1, f5, f11, f12, o0⟩
    obtain ⟨q1, q2⟩ := h _ (nth_mem hlt)
    obtain ⟨x, hx⟩ := Int.eq_ofNat_of_zero_le q1
    have hx2 : x < b.length := by omega
    have e : nth (thru l b) k = nth b x := by rw [thru_nth hlt, hx]; rfl
    have e2 := fillL_set (l := thru l b) (k := k) (n := l.length) thru_len hlt
    rw [e] at e2
    have hlt1 : k + 1 ≤ l.length := hlt
    have e3 := fillL_len (l := thru l b) (k := k) (n := l.length) thru_len (by omega)
    simp [f1, f5, f11, f12, o0, hc, hlt, hlt1, hw, drop_nth hlt, hx, hx2, drop_nth hx2, e2, e3]
  · rintro S hc ⟨f1, f5, f11, f12, o0⟩
    rw [fillL_all thru_len] at o0
    have et := fun fr => treeCell_row (fr := fr) (cnt := S.cnt) o0
    simp [f1, f5, f11, f12, o0, hc, thru_len, -treeCell, treeCell_t, et]

def c_pfollow : MFunc := ⟨27, [.tmp 4], .seq (.region [⟨some 4, .mv (.c (.one .nil)), none⟩]) (.seq (.region [⟨some 8, .mv (.tmp 0), none⟩, ⟨some 9, .len (.tmp 8), none⟩, ⟨some 10, .make 66 3 1 8 [.t (.int .i64 0)] (.tmp 9) (.tmp 9), none⟩, ⟨some 5, .mv (.tmp 10), none⟩]) (.seq (.seq (.region [⟨some 11, .mv (.tmp 0), none⟩, ⟨some 12, .len (.tmp 11), none⟩, ⟨some 13, .mv (.c (.one (.t (.int .i64 0)))), none⟩]) (.block 0 (.loop (.seq (.region [⟨some 14, .bin .lss (.tmp 13) (.tmp 12), none⟩]) (.seq (.cond (.tmp 14) .skip (.exit 0)) (.seq (.block 1 (.seq (.region [⟨some 15, .mv (.tmp 13), none⟩, ⟨some 16, .idxA 1 (.tmp 11) (.tmp 13), none⟩, ⟨some 17, .load false 1 (.tmp 16), none⟩, ⟨some 6, .mv (.tmp 15), none⟩, ⟨some 7, .mv (.tmp 17), none⟩]) (.region [⟨some 18, .mv (.tmp 5), none⟩, ⟨some 19, .mv (.tmp 6), none⟩, ⟨some 20, .mv (.tmp 1), none⟩, ⟨some 21, .mv (.tmp 7), none⟩, ⟨some 22, .idxA 1 (.tmp 20) (.tmp 21), none⟩, ⟨some 23, .load false 1 (.tmp 22), none⟩, ⟨some 24, .idxA 1 (.tmp 18) (.tmp 19), none⟩, ⟨none, .store 1 (.tmp 24) (.tmp 23), none⟩]))) (.region [⟨some 25, .bin .add (.tmp 13) (.c (.one (.t (.int .i64 1)))), none⟩, ⟨some 13, .mv (.tmp 25), none⟩]))))))) (.seq (.region [⟨some 26, .mv (.tmp 5), none⟩, ⟨some 4, .mv (.tmp 26), none⟩]) .ret)))⟩
theorem k_pfollow : cFn Tryz.prog Tryz.f162 = some c_pfollow := by kernel_rfl
theorem pfollow_ok (l b : List Int) (hl : tiny l.length) (h : placesIn l b.length) : CallOK Tryz.prog 162 [(false, [ints l]), (false, [ints b])] (.sv (false, [ints (thru l b)])) := by
  refine callOK_W (callS_W (by kernel_rfl) Tryz.func162 k_pfollow (callable_of Tryz.func162 (by kernel_rfl)) (by simp [c_pfollow]) ?_)
  have hl8 : l.length * 8 ≤ 140737488355328 := by simp only [tiny] at hl; omega
  have hl9 : (l.length : Int) ≤ 9223372036854775807 := by simp only [tiny] at hl; omega
  simp [c_pfollow, hl8, hl9]
  refine loopW_count 13 l.length (fun k S => S.fr 1 = .one (.t (ints b)) ∧ S.fr 5 = .one (.row (66, 0)) ∧ S.fr 11 = .one (.t (ints l)) ∧ S.fr 12 = .one (.t (.int .i64 l.length)) ∧ S.ob (66, 0) = some ⟨true, true, false, 1, l.length, 3, fillL (thru l b) k l.length⟩) hl.small ?_ ?_ ?_
  · simp [fillL_zero]
  · rintro k S hlt hw hc ⟨f1, f5, f11, f12, o0⟩
    obtain ⟨q1, q2⟩ := h _ (nth_mem hlt)
    obtain ⟨x, hx⟩ := Int.eq_ofNat_of_zero_le q1
    have hx2 : x < b.length := by omega
    have e : nth (thru l b) k = nth b x := by rw [thru_nth hlt, hx]; rfl
    have e2 := fillL_set (l := thru l b) (k := k) (n := l.length) thru_len hlt
    rw [e] at e2
    have hlt1 : k + 1 ≤ l.length := hlt
    have e3 := fillL_len (l := thru l b) (k := k) (n := l.length) thru_len (by omega)
    simp [f1, f5, f11, f12, o0, hc, hlt, hlt1, hw, drop_nth hlt, hx, hx2, drop_nth hx2, e2, e3]
  · rintro S hc ⟨f1, f5, f11, f12, o0⟩
    rw [fillL_all thru_len] at o0
    have et := fun fr => treeCell_row (fr := fr) (cnt := S.cnt) o0
    simp [f1, f5, f11, f12, o0, hc, thru_len, -treeCell, treeCell_t, et]

end Go.Proofs.YthcnpnogfblkcaaGreat

/- Contracts: compositions, comparisons and copies (2). -/
namespace Go.Proofs.YthcnpnogfblkcaaGreat
open Abs
set_option linter.unusedSimpArgs false
set_option linter.unusedVariables false
attribute [local simp] rn0 rn1 rn2 rn3 rn4 rn5 rn6 rn7 evOp nests Arg.ev St.val St.set St.new sliceOf binInt2 binInt AV.cells rdAt St.live retOf resOf resAll treeOf treeCell treeCells treeTups untree frameOf TV.av TR.av ints edgs prs fillV splice intsOf trees V1.tree bx Gr.v Pa.v opRd opWr opNew opNewR opArgs argsRd argRd Arg.rd AV.refs V1.refs refsL dstL

def c_through : MFunc := ⟨24, [.tmp 4], .seq (.region [⟨some 4, .mv (.c (.one .nil)), none⟩]) (.seq (.region [⟨some 5, .mv (.c (.one .nil)), none⟩]) (.seq (.seq (.region [⟨some 6, .mv (.c (.one (.t (.int .i64 0)))), none⟩]) (.block 0 (.loop (.seq (.seq (.region [⟨some 7, .mv (.tmp 6), none⟩, ⟨some 8, .mv (.tmp 0), none⟩, ⟨some 9, .len (.tmp 8), none⟩, ⟨some 10, .bin .lss (.tmp 7) (.tmp 9), none⟩]) (.cond (.tmp 10) .skip (.exit 0))) (.seq (.block 1 (.region [⟨some 13, .mv (.tmp 5), none⟩, ⟨some 14, .mv (.tmp 1), none⟩, ⟨some 15, .mv (.tmp 0), none⟩, ⟨some 16, .mv (.tmp 6), none⟩, ⟨some 17, .idxA 1 (.tmp 15) (.tmp 16), none⟩, ⟨some 18, .load false 1 (.tmp 17), none⟩, ⟨some 19, .idxA 1 (.tmp 14) (.tmp 18), none⟩, ⟨some 20, .load false 1 (.tmp 19), none⟩, ⟨some 21, .mkrow 328 3 1 1 [.t (.int .i64 0)] [(0, (1, .tmp 20))], none⟩, ⟨some 22, .append 329 3 1 8 (.tmp 13) (.tmp 21), none⟩, ⟨some 5, .mv (.tmp 22), none⟩])) (.region [⟨some 11, .mv (.tmp 6), none⟩, ⟨some 12, .bin .add (.tmp 11) (.c (.one (.t (.int .i64 1)))), none⟩, ⟨some 6, .mv (.tmp 12), none⟩])))))) (.seq (.region [⟨some 23, .mv (.tmp 5), none⟩, ⟨some 4, .mv (.tmp 23), none⟩]) .ret)))⟩
theorem k_through : cFn Tryz.prog Tryz.f81 = some c_through := by kernel_rfl
theorem through_row (l b : List Int) (hl : tiny l.length) (h : placesIn l b.length) : RowI Tryz.prog 81 [(false, [ints l]), (false, [ints b])] 3 (thru l b) := by
  refine callRow_W (plain_ints _) (by simp) (by omega) (callS_W (by kernel_rfl) Tryz.func81 k_through (callable_of Tryz.func81 (by kernel_rfl)) (by simp [c_through]) ?_)
  simp [c_through]
  refine loopW_count 6 l.length (fun k S => S.fr 0 = .one (.t (ints l)) ∧ S.fr 1 = .one (.t (ints b)) ∧ outR 329 3 1 (thru (l.take k) b).length ((thru (l.take k) b).map (.int .i64)) S.ob (S.fr 5)) hl.small ?_ ?_ ?_
  · simp [thru, outR_nil]
  · rintro k S hlt hw hc ⟨f0, f1, ho⟩
    obtain ⟨q1, q2⟩ := h _ (nth_mem hlt)
    obtain ⟨x, hx⟩ := Int.eq_ofNat_of_zero_le q1
    have hx2 : x < b.length := by omega
    have hlen : (thru (l.take k) b).length ≤ 1000000 := by simp only [tiny] at hl; rw [thru_len, List.length_take]; omega
    have e := thru_succ (b := b) hlt
    rw [hx] at e
    simp [f0, f1, hc, hlt, hw, drop_nth hlt, hx, hx2, drop_nth hx2]
    refine kApp_grow (ts := [.int .i64 (nth b x)]) rfl (ho.keep fun g => by simp) (by omega) rfl (by omega) (by omega) fun E hE hob hcnt => ?_
    simp [f0, f1, hc, hw, e]
    simpa [thru_len] using hE
  · rintro S hc ⟨f0, f1, ho⟩
    obtain ⟨u, hu⟩ := ho.one
    rw [hu, List.take_length] at ho
    simp [f0, f1, hc, hu]
    simpa using ho.rowIs

/-- One morphism after another one. -/
def thenP (m n : Pa) : Pa := ⟨thru m.nodes n.nodes, thru m.edges n.edges⟩
structure FitsP (m n : Pa) : Prop where
  fn : placesIn m.nodes n.nodes.length
  fe : placesIn m.edges n.edges.length

def c_then6 : MFunc := ⟨16, [.cell 4 true 2], .seq (.region [⟨some 2, .box 0 27 (.tmp 0), none⟩, ⟨some 3, .box 1 27 (.tmp 1), none⟩, ⟨some 4, .alloc 2 27 [.nil, .nil], none⟩]) (.seq (.draw [[], [0], [], [2], [1, 3], [], [5], [], [7], [6, 8, 4], [4, 9], [10, 9, 0, 1, 2, 3, 4, 5, 6, 7, 8, 9, 10]] [⟨some 5, .fieldA 0 (.tmp 2), none⟩, ⟨some 6, .load false 1 (.tmp 5), none⟩, ⟨some 7, .fieldA 0 (.tmp 3), none⟩, ⟨some 8, .load false 1 (.tmp 7), none⟩, ⟨some 9, .call (.c (.one (.fn 81 []))) 68 [.tmp 6, .tmp 8], none⟩, ⟨some 10, .fieldA 1 (.tmp 2), none⟩, ⟨some 11, .load false 1 (.tmp 10), none⟩, ⟨some 12, .fieldA 1 (.tmp 3), none⟩, ⟨some 13, .load false 1 (.tmp 12), none⟩, ⟨some 14, .call (.c (.one (.fn 81 []))) 73 [.tmp 11, .tmp 13], none⟩, ⟨some 15, .build [.nil, .nil] [(0, (1, .tmp 9)), (1, (1, .tmp 14))], none⟩, ⟨none, .store 2 (.tmp 4) (.tmp 15), none⟩]) .ret)⟩
theorem k_then6 : cFn Tryz.prog Tryz.f39 = some c_then6 := by kernel_rfl
theorem then6_ok (m n : Pa) (hm : tinyP m) (h : FitsP m n) : CallOK Tryz.prog 39 [m.v, n.v] (.sv (thenP m n).v) := by
  refine callOK_W (callS_W (by kernel_rfl) Tryz.func39 k_then6 (callable_of Tryz.func39 (by kernel_rfl)) (by simp [c_then6]) ?_)
  simp [c_then6, dw0, dw1, dw2, dw3]
  refine dCall_ok (through_row m.nodes n.nodes hm.1 h.fn).ok ?_ ?_ ?_
  · rfl
  · rfl
  simp [dw0, dw1, dw2, dw3]
  refine dCall_ok (through_row m.edges n.edges hm.2 h.fe).ok ?_ ?_ ?_
  · rfl
  · rfl
  simp [dw0, dw1, dw2, dw3, thenP]
  rfl

def c_sthen : MFunc := ⟨16, [.cell 4 true 2], .seq (.region [⟨some 2, .box 0 27 (.tmp 0), none⟩, ⟨some 3, .box 1 27 (.tmp 1), none⟩, ⟨some 4, .alloc 2 27 [.nil, .nil], none⟩]) (.seq (.draw [[], [0], [], [2], [1, 3], [], [5], [], [7], [6, 8, 4], [4, 9], [10, 9, 0, 1, 2, 3, 4, 5, 6, 7, 8, 9, 10]] [⟨some 5, .fieldA 0 (.tmp 2), none⟩, ⟨some 6, .load false 1 (.tmp 5), none⟩, ⟨some 7, .fieldA 0 (.tmp 3), none⟩, ⟨some 8, .load false 1 (.tmp 7), none⟩, ⟨some 9, .call (.c (.one (.fn 83 []))) 68 [.tmp 6, .tmp 8], none⟩, ⟨some 10, .fieldA 1 (.tmp 2), none⟩, ⟨some 11, .load false 1 (.tmp 10), none⟩, ⟨some 12, .fieldA 1 (.tmp 3), none⟩, ⟨some 13, .load false 1 (.tmp 12), none⟩, ⟨some 14, .call (.c (.one (.fn 83 []))) 73 [.tmp 11, .tmp 13], none⟩, ⟨some 15, .build [.nil, .nil] [(0, (1, .tmp 9)), (1, (1, .tmp 14))], none⟩, ⟨none, .store 2 (.tmp 4) (.tmp 15), none⟩]) .ret)⟩
theorem k_sthen : cFn Tryz.prog Tryz.f44 = some c_sthen := by kernel_rfl
theorem sthen_ok (m n : Pa) (hm : tinyP m) (h : FitsP m n) : CallOK Tryz.prog 44 [m.v, n.v] (.sv (thenP m n).v) := by
  refine callOK_W (callS_W (by kernel_rfl) Tryz.func44 k_sthen (callable_of Tryz.func44 (by kernel_rfl)) (by simp [c_sthen]) ?_)
  simp [c_sthen, dw0, dw1, dw2, dw3]
  refine dCall_ok (sfollow_ok m.nodes n.nodes hm.1 h.fn) ?_ ?_ ?_
  · rfl
  · rfl
  simp [dw0, dw1, dw2, dw3]
  refine dCall_ok (sfollow_ok m.edges n.edges hm.2 h.fe) ?_ ?_ ?_
  · rfl
  · rfl
  simp [dw0, dw1, dw2, dw3, thenP]
  rfl

def c_pthen : MFunc := ⟨16, [.cell 4 true 2], .seq (.region [⟨some 2, .box 0 27 (.tmp 0), none⟩, ⟨some 3, .box 1 27 (.tmp 1), none⟩, ⟨some 4, .alloc 2 27 [.nil, .nil], none⟩]) (.seq (.draw [[], [0], [], [2], [1, 3], [], [5], [], [7], [6, 8, 4], [4, 9], [10, 9, 0, 1, 2, 3, 4, 5, 6, 7, 8, 9, 10]] [⟨some 5, .fieldA 0 (.tmp 2), none⟩, ⟨some 6, .load false 1 (.tmp 5), none⟩, ⟨some 7, .fieldA 0 (.tmp 3), none⟩, ⟨some 8, .load false 1 (.tmp 7), none⟩, ⟨some 9, .call (.c (.one (.fn 162 []))) 68 [.tmp 6, .tmp 8], none⟩, ⟨some 10, .fieldA 1 (.tmp 2), none⟩, ⟨some 11, .load false 1 (.tmp 10), none⟩, ⟨some 12, .fieldA 1 (.tmp 3), none⟩, ⟨some 13, .load false 1 (.tmp 12), none⟩, ⟨some 14, .call (.c (.one (.fn 162 []))) 73 [.tmp 11, .tmp 13], none⟩, ⟨some 15, .build [.nil, .nil] [(0, (1, .tmp 9)), (1, (1, .tmp 14))], none⟩, ⟨none, .store 2 (.tmp 4) (.tmp 15), none⟩]) .ret)⟩
theorem k_pthen : cFn Tryz.prog Tryz.f136 = some c_pthen := by kernel_rfl
theorem pthen_ok (m n : Pa) (hm : tinyP m) (h : FitsP m n) : CallOK Tryz.prog 136 [m.v, n.v] (.sv (thenP m n).v) := by
  refine callOK_W (callS_W (by kernel_rfl) Tryz.func136 k_pthen (callable_of Tryz.func136 (by kernel_rfl)) (by simp [c_pthen]) ?_)
  simp [c_pthen, dw0, dw1, dw2, dw3]
  refine dCall_ok (pfollow_ok m.nodes n.nodes hm.1 h.fn) ?_ ?_ ?_
  · rfl
  · rfl
  simp [dw0, dw1, dw2, dw3]
  refine dCall_ok (pfollow_ok m.edges n.edges hm.2 h.fe) ?_ ?_ ?_
  · rfl
  · rfl
  simp [dw0, dw1, dw2, dw3, thenP]
  rfl

def c_sameInts2 : MFunc := ⟨26, [.tmp 4], .seq (.region [⟨some 4, .mv (.c (.one (.t (.bool false)))), none⟩]) (.seq (.seq (.region [⟨some 6, .mv (.tmp 0), none⟩, ⟨some 7, .len (.tmp 6), none⟩, ⟨some 8, .mv (.tmp 1), none⟩, ⟨some 9, .len (.tmp 8), none⟩, ⟨some 10, .bin .neq (.tmp 7) (.tmp 9), none⟩]) (.cond (.tmp 10) (.seq (.region [⟨some 4, .mv (.c (.one (.t (.bool false)))), none⟩]) .ret) .skip)) (.seq (.seq (.region [⟨some 5, .mv (.c (.one (.t (.int .i64 0)))), none⟩]) (.block 0 (.loop (.seq (.seq (.region [⟨some 11, .mv (.tmp 5), none⟩, ⟨some 12, .mv (.tmp 0), none⟩, ⟨some 13, .len (.tmp 12), none⟩, ⟨some 14, .bin .lss (.tmp 11) (.tmp 13), none⟩]) (.cond (.tmp 14) .skip (.exit 0))) (.seq (.block 1 (.seq (.draw [[], [], [0, 1], [2], [], [], [4, 5], [6], [3, 7]] [⟨some 17, .mv (.tmp 0), none⟩, ⟨some 18, .mv (.tmp 5), none⟩, ⟨some 19, .idxA 1 (.tmp 17) (.tmp 18), none⟩, ⟨some 20, .load false 1 (.tmp 19), none⟩, ⟨some 21, .mv (.tmp 1), none⟩, ⟨some 22, .mv (.tmp 5), none⟩, ⟨some 23, .idxA 1 (.tmp 21) (.tmp 22), none⟩, ⟨some 24, .load false 1 (.tmp 23), none⟩, ⟨some 25, .bin .neq (.tmp 20) (.tmp 24), none⟩]) (.cond (.tmp 25) (.seq (.region [⟨some 4, .mv (.c (.one (.t (.bool false)))), none⟩]) .ret) .skip))) (.region [⟨some 15, .mv (.tmp 5), none⟩, ⟨some 16, .bin .add (.tmp 15) (.c (.one (.t (.int .i64 1)))), none⟩, ⟨some 5, .mv (.tmp 16), none⟩])))))) (.seq (.region [⟨some 4, .mv (.c (.one (.t (.bool true)))), none⟩]) .ret)))⟩
theorem k_sameInts2 : cFn Tryz.prog Tryz.f60 = some c_sameInts2 := by kernel_rfl
theorem sameInts2_ok (a b : List Int) (ha : tiny a.length) (hb : tiny b.length) : CallOK Tryz.prog 60 [(false, [ints a]), (false, [ints b])] (.sv (false, [.bool (decide (a = b))])) := by
  refine callOK_W (callS_W (by kernel_rfl) Tryz.func60 k_sameInts2 (callable_of Tryz.func60 (by kernel_rfl)) (by simp [c_sameInts2]) ?_)
  by_cases hl : (a.length : Int) = b.length
  case neg =>
    have : ¬ a = b := fun e => hl (by rw [e])
    simp [c_sameInts2, hl, this]
  simp [c_sameInts2, hl]
  have hl' : a.length = b.length := by omega
  refine loopW_count 5 a.length (fun k S => S.fr 0 = .one (.t (ints a)) ∧ S.fr 1 = .one (.t (ints b)) ∧ ∀ j, j < k → nth a j = nth b j) ha.small ?_ ?_ ?_
  · simp [hl]
  · rintro k S hlt hw hc ⟨f0, f1, hp⟩
    have hlt2 : k < b.length := by omega
    by_cases e : nth a k = nth b k
    · simp [dw0, dw1, dw2, dw3, f0, f1, hc, hlt, hlt2, drop_nth hlt, drop_nth hlt2, e, hw]
      exact ⟨rfl, lt_succ_all hp e⟩
    · have : ¬ a = b := fun h => e (by rw [h])
      simp [dw0, dw1, dw2, dw3, f0, f1, hc, hlt, hlt2, drop_nth hlt, drop_nth hlt2, e, this]
      rfl
  · rintro S hc ⟨f0, f1, hp⟩
    have : a = b := list_ext_nth hl' hp
    simp [f0, f1, hc, this]

theorem eth_eq {l : List Ed} {k : Nat} (h : k < l.length) : eth l k = l[k] := by simp [eth, h]
theorem list_ext_eth {a b : List Ed} (hl : a.length = b.length) (h : ∀ k, k < a.length → eth a k = eth b k) : a = b := by
  apply List.ext_getElem hl
  intro i h1 h2
  have := h i h1
  rwa [eth_eq h1, eth_eq h2] at this
theorem ed_eq {a b : Ed} : a = b ↔ a.t = b.t ∧ a.f = b.f ∧ a.g = b.g := by
  cases a; cases b; simp

def c_equalE : MFunc := ⟨26, [.tmp 4], .seq (.region [⟨some 4, .mv (.c (.one (.t (.bool false)))), none⟩]) (.seq (.seq (.region [⟨some 6, .mv (.tmp 0), none⟩, ⟨some 7, .len (.tmp 6), none⟩, ⟨some 8, .mv (.tmp 1), none⟩, ⟨some 9, .len (.tmp 8), none⟩, ⟨some 10, .bin .neq (.tmp 7) (.tmp 9), none⟩]) (.cond (.tmp 10) (.seq (.region [⟨some 4, .mv (.c (.one (.t (.bool false)))), none⟩]) .ret) .skip)) (.seq (.seq (.region [⟨some 11, .mv (.tmp 0), none⟩, ⟨some 12, .len (.tmp 11), none⟩, ⟨some 13, .mv (.c (.one (.t (.int .i64 0)))), none⟩]) (.block 0 (.loop (.seq (.region [⟨some 14, .bin .lss (.tmp 13) (.tmp 12), none⟩]) (.seq (.cond (.tmp 14) .skip (.exit 0)) (.seq (.block 1 (.seq (.region [⟨some 15, .mv (.tmp 13), none⟩, ⟨some 5, .mv (.tmp 15), none⟩]) (.seq (.draw [[], [], [0, 1], [2], [], [], [4, 5], [6], [3, 7]] [⟨some 16, .mv (.tmp 0), none⟩, ⟨some 17, .mv (.tmp 5), none⟩, ⟨some 18, .idxA 3 (.tmp 16) (.tmp 17), none⟩, ⟨some 19, .load true 3 (.tmp 18), none⟩, ⟨some 20, .mv (.tmp 1), none⟩, ⟨some 21, .mv (.tmp 5), none⟩, ⟨some 22, .idxA 3 (.tmp 20) (.tmp 21), none⟩, ⟨some 23, .load true 3 (.tmp 22), none⟩, ⟨some 24, .eqS true 3 (.tmp 19) (.tmp 23), none⟩]) (.cond (.tmp 24) (.seq (.region [⟨some 4, .mv (.c (.one (.t (.bool false)))), none⟩]) .ret) .skip)))) (.region [⟨some 25, .bin .add (.tmp 13) (.c (.one (.t (.int .i64 1)))), none⟩, ⟨some 13, .mv (.tmp 25), none⟩]))))))) (.seq (.region [⟨some 4, .mv (.c (.one (.t (.bool true)))), none⟩]) .ret)))⟩
theorem k_equalE : cFn Tryz.prog Tryz.f118 = some c_equalE := by kernel_rfl
theorem equalE_ok (a b : List Ed) (ha : tiny a.length) (hb : tiny b.length) : CallOK Tryz.prog 118 [(false, [edgs a]), (false, [edgs b])] (.sv (false, [.bool (decide (a = b))])) := by
  refine callOK_W (callS_W (by kernel_rfl) Tryz.func118 k_equalE (callable_of Tryz.func118 (by kernel_rfl)) (by simp [c_equalE]) ?_)
  by_cases hl : (a.length : Int) = b.length
  case neg =>
    have : ¬ a = b := fun e => hl (by rw [e])
    simp [c_equalE, hl, this]
  simp [c_equalE, hl]
  have hl' : a.length = b.length := by omega
  refine loopW_count 13 a.length (fun k S => S.fr 0 = .one (.t (edgs a)) ∧ S.fr 1 = .one (.t (edgs b)) ∧ S.fr 12 = .one (.t (.int .i64 a.length)) ∧ ∀ j, j < k → eth a j = eth b j) ha.small ?_ ?_ ?_
  · simp [hl]
  · rintro k S hlt hw hc ⟨f0, f1, f12, hp⟩
    have hlt2 : k < b.length := by omega
    have hlt3 : k * 3 < a.length * 3 := by omega
    have hlt4 : k * 3 < b.length * 3 := by omega
    by_cases e : eth a k = eth b k
    · have e' := ed_eq.1 e
      simp [dw0, dw1, dw2, dw3, f0, f1, f12, hc, hlt, hlt2, hlt3, hlt4, drop_edL hlt, drop_edL hlt2, e'.1, e'.2.1, e'.2.2, hw]
      exact ⟨rfl, lt_succ_all hp e⟩
    · have : ¬ a = b := fun h => e (by rw [h])
      have e' : ¬ ((eth a k).t = (eth b k).t ∧ (eth a k).f = (eth b k).f ∧ (eth a k).g = (eth b k).g) := fun h => e (ed_eq.2 h)
      simp [dw0, dw1, dw2, dw3, f0, f1, f12, hc, hlt, hlt2, hlt3, hlt4, drop_edL hlt, drop_edL hlt2, this, -not_and]
      have hb : (!decide ((eth a k).t = (eth b k).t) || (!decide ((eth a k).f = (eth b k).f) || !decide ((eth a k).g = (eth b k).g))) = true := by
        by_cases h1 : (eth a k).t = (eth b k).t <;> by_cases h2 : (eth a k).f = (eth b k).f <;> by_cases h3 : (eth a k).g = (eth b k).g <;> simp [h1, h2, h3] at e' ⊢
      refine ⟨rfl, ?_⟩
      rw [hb]
      simp [this]
  · rintro S hc ⟨f0, f1, f12, hp⟩
    have : a = b := list_ext_eth hl' hp
    simp [f0, f1, f12, hc, this]

def c_ref5Same : MFunc := ⟨39, [.tmp 4], .seq (.region [⟨some 2, .box 0 25 (.tmp 0), none⟩, ⟨some 3, .box 1 25 (.tmp 1), none⟩, ⟨some 4, .mv (.c (.one (.t (.bool false)))), none⟩]) (.seq (.seq (.region [⟨some 6, .fieldA 0 (.tmp 2), none⟩, ⟨some 7, .load false 1 (.tmp 6), none⟩, ⟨some 8, .fieldA 0 (.tmp 3), none⟩, ⟨some 9, .load false 1 (.tmp 8), none⟩, ⟨some 10, .call (.c (.one (.fn 59 []))) 68 [.tmp 7, .tmp 9], none⟩, ⟨some 11, .not (.tmp 10), none⟩, ⟨some 12, .mv (.tmp 11), none⟩, ⟨some 13, .fieldA 1 (.tmp 2), some (12, false)⟩, ⟨some 14, .load false 1 (.tmp 13), some (12, false)⟩, ⟨some 15, .len (.tmp 14), some (12, false)⟩, ⟨some 16, .fieldA 1 (.tmp 3), some (12, false)⟩, ⟨some 17, .load false 1 (.tmp 16), some (12, false)⟩, ⟨some 18, .len (.tmp 17), some (12, false)⟩, ⟨some 19, .bin .neq (.tmp 15) (.tmp 18), some (12, false)⟩, ⟨some 20, .pick (.tmp 12) (.c (.one (.t (.bool true)))) (.tmp 19), none⟩]) (.cond (.tmp 20) (.seq (.region [⟨some 4, .mv (.c (.one (.t (.bool false)))), none⟩]) .ret) .skip)) (.seq (.seq (.region [⟨some 5, .mv (.c (.one (.t (.int .i64 0)))), none⟩]) (.block 0 (.loop (.seq (.seq (.region [⟨some 21, .mv (.tmp 5), none⟩, ⟨some 22, .fieldA 1 (.tmp 2), none⟩, ⟨some 23, .load false 1 (.tmp 22), none⟩, ⟨some 24, .len (.tmp 23), none⟩, ⟨some 25, .bin .lss (.tmp 21) (.tmp 24), none⟩]) (.cond (.tmp 25) .skip (.exit 0))) (.seq (.block 1 (.seq (.draw [[], [0], [], [1, 2], [3], [], [5], [], [6, 7], [8], [4, 9]] [⟨some 28, .fieldA 1 (.tmp 2), none⟩, ⟨some 29, .load false 1 (.tmp 28), none⟩, ⟨some 30, .mv (.tmp 5), none⟩, ⟨some 31, .idxA 3 (.tmp 29) (.tmp 30), none⟩, ⟨some 32, .load true 3 (.tmp 31), none⟩, ⟨some 33, .fieldA 1 (.tmp 3), none⟩, ⟨some 34, .load false 1 (.tmp 33), none⟩, ⟨some 35, .mv (.tmp 5), none⟩, ⟨some 36, .idxA 3 (.tmp 34) (.tmp 35), none⟩, ⟨some 37, .load true 3 (.tmp 36), none⟩, ⟨some 38, .eqS true 3 (.tmp 32) (.tmp 37), none⟩]) (.cond (.tmp 38) (.seq (.region [⟨some 4, .mv (.c (.one (.t (.bool false)))), none⟩]) .ret) .skip))) (.region [⟨some 26, .mv (.tmp 5), none⟩, ⟨some 27, .bin .add (.tmp 26) (.c (.one (.t (.int .i64 1)))), none⟩, ⟨some 5, .mv (.tmp 27), none⟩])))))) (.seq (.region [⟨some 4, .mv (.c (.one (.t (.bool true)))), none⟩]) .ret)))⟩
theorem k_ref5Same : cFn Tryz.prog Tryz.f22 = some c_ref5Same := by kernel_rfl
theorem ref5Same_ok (a b : Gr) (ha : tinyG a) (hb : tinyG b) : CallOK Tryz.prog 22 [a.v, b.v] (.sv (false, [.bool (decide (a.nodes = b.nodes) && decide (a.edges = b.edges))])) := by
  refine callOK_W (callS_W (by kernel_rfl) Tryz.func22 k_ref5Same (callable_of Tryz.func22 (by kernel_rfl)) (by simp [c_ref5Same]) ?_)
  simp [c_ref5Same]
  refine callS_tree (sameInts_ok a.nodes b.nodes ha.1 hb.1) ?_ ?_ ?_
  · rfl
  · rfl
  by_cases h1 : a.nodes = b.nodes
  case neg => simp [h1]
  by_cases hl : (a.edges.length : Int) = b.edges.length
  case neg =>
    have : ¬ a.edges = b.edges := fun e => hl (by rw [e])
    simp [hl, this, h1]
  simp [hl, h1]
  have hl' : a.edges.length = b.edges.length := by omega
  refine loopW_count 5 a.edges.length (fun k S => S.fr 2 = .one (.ptr (0, 0) 0) ∧ S.fr 3 = .one (.ptr (1, 0) 0) ∧ S.ob (0, 0) = some (bx 25 (a.v.2.map .t)) ∧ S.ob (1, 0) = some (bx 25 (b.v.2.map .t)) ∧ ∀ j, j < k → eth a.edges j = eth b.edges j) ha.2.small ?_ ?_ ?_
  · simp [hl, h1]
  · rintro k S hlt hw hc ⟨f2, f3, o0, o1, hp⟩
    have hlt2 : k < b.edges.length := by omega
    have hlt3 : k * 3 < a.edges.length * 3 := by omega
    have hlt4 : k * 3 < b.edges.length * 3 := by omega
    by_cases e : eth a.edges k = eth b.edges k
    · have e' := ed_eq.1 e
      simp [dw0, dw1, dw2, dw3, f2, f3, o0, o1, hc, hlt, hlt2, hlt3, hlt4, drop_edL hlt, drop_edL hlt2, e'.1, e'.2.1, e'.2.2, hw]
      exact ⟨rfl, lt_succ_all hp e⟩
    · have : ¬ a.edges = b.edges := fun h => e (by rw [h])
      have e' : ¬ ((eth a.edges k).t = (eth b.edges k).t ∧ (eth a.edges k).f = (eth b.edges k).f ∧ (eth a.edges k).g = (eth b.edges k).g) := fun h => e (ed_eq.2 h)
      simp [dw0, dw1, dw2, dw3, f2, f3, o0, o1, hc, hlt, hlt2, hlt3, hlt4, drop_edL hlt, drop_edL hlt2, this, -not_and]
      have hb : (!decide ((eth a.edges k).t = (eth b.edges k).t) || (!decide ((eth a.edges k).f = (eth b.edges k).f) || !decide ((eth a.edges k).g = (eth b.edges k).g))) = true := by
        by_cases h1 : (eth a.edges k).t = (eth b.edges k).t <;> by_cases h2 : (eth a.edges k).f = (eth b.edges k).f <;> by_cases h3 : (eth a.edges k).g = (eth b.edges k).g <;> simp [h1, h2, h3] at e' ⊢
      refine ⟨rfl, ?_⟩
      rw [hb]
      simp [this]
  · rintro S hc ⟨f2, f3, o0, o1, hp⟩
    have : a.edges = b.edges := list_ext_eth hl' hp
    simp [f2, f3, o0, o1, hc, this]

def sameG (a b : Gr) : Bool := decide (a.nodes = b.nodes) && decide (a.edges = b.edges)
def sameP (a b : Pa) : Bool := decide (a.nodes = b.nodes) && decide (a.edges = b.edges)
theorem sameG_iff {a b : Gr} : sameG a b = true ↔ a = b := by
  cases a; cases b; simp [sameG]
theorem sameP_iff {a b : Pa} : sameP a b = true ↔ a = b := by
  cases a; cases b; simp [sameP]

def c_ssame : MFunc := ⟨17, [.tmp 4], .seq (.region [⟨some 2, .box 0 25 (.tmp 0), none⟩, ⟨some 3, .box 1 25 (.tmp 1), none⟩, ⟨some 4, .mv (.c (.one (.t (.bool false)))), none⟩]) (.seq (.region [⟨some 5, .fieldA 0 (.tmp 2), none⟩, ⟨some 6, .load false 1 (.tmp 5), none⟩, ⟨some 7, .fieldA 0 (.tmp 3), none⟩, ⟨some 8, .load false 1 (.tmp 7), none⟩, ⟨some 9, .call (.c (.one (.fn 117 []))) 68 [.tmp 6, .tmp 8], none⟩, ⟨some 10, .mv (.tmp 9), none⟩, ⟨some 11, .fieldA 1 (.tmp 2), some (10, true)⟩, ⟨some 12, .load false 1 (.tmp 11), some (10, true)⟩, ⟨some 13, .fieldA 1 (.tmp 3), some (10, true)⟩, ⟨some 14, .load false 1 (.tmp 13), some (10, true)⟩, ⟨some 15, .call (.c (.one (.fn 118 []))) 74 [.tmp 12, .tmp 14], some (10, true)⟩, ⟨some 16, .pick (.tmp 10) (.tmp 15) (.c (.one (.t (.bool false)))), none⟩, ⟨some 4, .mv (.tmp 16), none⟩]) .ret)⟩
theorem k_ssame : cFn Tryz.prog Tryz.f79 = some c_ssame := by kernel_rfl
theorem ssame_ok (a b : Gr) (ha : tinyG a) (hb : tinyG b) : CallOK Tryz.prog 79 [a.v, b.v] (.sv (false, [.bool (sameG a b)])) := by
  refine callOK_W (callS_W (by kernel_rfl) Tryz.func79 k_ssame (callable_of Tryz.func79 (by kernel_rfl)) (by simp [c_ssame]) ?_)
  simp [c_ssame]
  refine callS_tree (equal_ok a.nodes b.nodes ha.1 hb.1) ?_ ?_ ?_
  · rfl
  · rfl
  by_cases h1 : a.nodes = b.nodes
  case neg => simp [h1, sameG]
  simp [h1]
  refine callS_tree (equalE_ok a.edges b.edges ha.2 hb.2) ?_ ?_ ?_
  · rfl
  · rfl
  simp [h1, sameG]

def c_msame : MFunc := ⟨17, [.tmp 4], .seq (.region [⟨some 2, .box 0 27 (.tmp 0), none⟩, ⟨some 3, .box 1 27 (.tmp 1), none⟩, ⟨some 4, .mv (.c (.one (.t (.bool false)))), none⟩]) (.seq (.region [⟨some 5, .fieldA 0 (.tmp 2), none⟩, ⟨some 6, .load false 1 (.tmp 5), none⟩, ⟨some 7, .fieldA 0 (.tmp 3), none⟩, ⟨some 8, .load false 1 (.tmp 7), none⟩, ⟨some 9, .call (.c (.one (.fn 117 []))) 68 [.tmp 6, .tmp 8], none⟩, ⟨some 10, .mv (.tmp 9), none⟩, ⟨some 11, .fieldA 1 (.tmp 2), some (10, true)⟩, ⟨some 12, .load false 1 (.tmp 11), some (10, true)⟩, ⟨some 13, .fieldA 1 (.tmp 3), some (10, true)⟩, ⟨some 14, .load false 1 (.tmp 13), some (10, true)⟩, ⟨some 15, .call (.c (.one (.fn 117 []))) 74 [.tmp 12, .tmp 14], some (10, true)⟩, ⟨some 16, .pick (.tmp 10) (.tmp 15) (.c (.one (.t (.bool false)))), none⟩, ⟨some 4, .mv (.tmp 16), none⟩]) .ret)⟩
theorem k_msame : cFn Tryz.prog Tryz.f80 = some c_msame := by kernel_rfl
theorem msame_ok (a b : Pa) (ha : tinyP a) (hb : tinyP b) : CallOK Tryz.prog 80 [a.v, b.v] (.sv (false, [.bool (sameP a b)])) := by
  refine callOK_W (callS_W (by kernel_rfl) Tryz.func80 k_msame (callable_of Tryz.func80 (by kernel_rfl)) (by simp [c_msame]) ?_)
  simp [c_msame]
  refine callS_tree (equal_ok a.nodes b.nodes ha.1 hb.1) ?_ ?_ ?_
  · rfl
  · rfl
  by_cases h1 : a.nodes = b.nodes
  case neg => simp [h1, sameP]
  simp [h1]
  refine callS_tree (equal_ok a.edges b.edges ha.2 hb.2) ?_ ?_ ?_
  · rfl
  · rfl
  simp [h1, sameP]

def c_rsame : MFunc := ⟨17, [.tmp 4], .seq (.region [⟨some 2, .box 0 27 (.tmp 0), none⟩, ⟨some 3, .box 1 27 (.tmp 1), none⟩, ⟨some 4, .mv (.c (.one (.t (.bool false)))), none⟩]) (.seq (.region [⟨some 5, .fieldA 0 (.tmp 2), none⟩, ⟨some 6, .load false 1 (.tmp 5), none⟩, ⟨some 7, .fieldA 0 (.tmp 3), none⟩, ⟨some 8, .load false 1 (.tmp 7), none⟩, ⟨some 9, .call (.c (.one (.fn 60 []))) 68 [.tmp 6, .tmp 8], none⟩, ⟨some 10, .mv (.tmp 9), none⟩, ⟨some 11, .fieldA 1 (.tmp 2), some (10, true)⟩, ⟨some 12, .load false 1 (.tmp 11), some (10, true)⟩, ⟨some 13, .fieldA 1 (.tmp 3), some (10, true)⟩, ⟨some 14, .load false 1 (.tmp 13), some (10, true)⟩, ⟨some 15, .call (.c (.one (.fn 60 []))) 74 [.tmp 12, .tmp 14], some (10, true)⟩, ⟨some 16, .pick (.tmp 10) (.tmp 15) (.c (.one (.t (.bool false)))), none⟩, ⟨some 4, .mv (.tmp 16), none⟩]) .ret)⟩
theorem k_rsame : cFn Tryz.prog Tryz.f23 = some c_rsame := by kernel_rfl
theorem rsame_ok (a b : Pa) (ha : tinyP a) (hb : tinyP b) : CallOK Tryz.prog 23 [a.v, b.v] (.sv (false, [.bool (sameP a b)])) := by
  refine callOK_W (callS_W (by kernel_rfl) Tryz.func23 k_rsame (callable_of Tryz.func23 (by kernel_rfl)) (by simp [c_rsame]) ?_)
  simp [c_rsame]
  refine callS_tree (sameInts2_ok a.nodes b.nodes ha.1 hb.1) ?_ ?_ ?_
  · rfl
  · rfl
  by_cases h1 : a.nodes = b.nodes
  case neg => simp [h1, sameP]
  simp [h1]
  refine callS_tree (sameInts2_ok a.edges b.edges ha.2 hb.2) ?_ ?_ ?_
  · rfl
  · rfl
  simp [h1, sameP]
end Go.Proofs.YthcnpnogfblkcaaGreat

/- Contracts: copies; squares, their errors, and whether they commute. -/
namespace Go.Proofs.YthcnpnogfblkcaaGreat
open Abs
set_option linter.unusedSimpArgs false
set_option linter.unusedVariables false
attribute [local simp] rn0 rn1 rn2 rn3 rn4 rn5 rn6 rn7 evOp nests Arg.ev St.val St.set St.new sliceOf binInt2 binInt AV.cells rdAt St.live retOf resOf resAll treeOf treeCell treeCells treeTups untree frameOf TV.av TR.av ints edgs prs fillV splice intsOf trees V1.tree bx Gr.v Pa.v opRd opWr opNew opNewR opArgs argsRd argRd Arg.rd AV.refs V1.refs refsL dstL

theorem plain_edL (l : List Ed) : (edL l).all C.plain = true := by
  simp only [edL, List.all_eq_true, List.mem_flatMap]
  rintro c ⟨x, _, hc⟩
  simp [edC] at hc
  rcases hc with rfl | rfl | rfl <;> rfl

def c_cloneE : MFunc := ⟨8, [.tmp 2], .seq (.region [⟨some 2, .mv (.c (.one .nil)), none⟩]) (.seq (.seq (.region [⟨some 3, .mv (.tmp 0), none⟩, ⟨some 4, .isnil false (.tmp 3), none⟩]) (.cond (.tmp 4) (.seq (.region [⟨some 2, .mv (.c (.one .nil)), none⟩]) .ret) .skip)) (.seq (.region [⟨some 5, .mkrow 192 76 3 0 [] [], none⟩, ⟨some 6, .mv (.tmp 0), none⟩, ⟨some 7, .append 194 76 3 24 (.tmp 5) (.tmp 6), none⟩, ⟨some 2, .mv (.tmp 7), none⟩]) .ret))⟩
theorem k_cloneE : cFn Tryz.prog Tryz.f86 = some c_cloneE := by kernel_rfl
theorem cloneE_row (l : List Ed) (hl : tiny l.length) : CallRow Tryz.prog 86 [(false, [edgs l])] 76 3 l.length (edL l) := by
  refine callRow_W (plain_edL _) (len_edL _) (by omega) (callS_W (by kernel_rfl) Tryz.func86 k_cloneE (callable_of Tryz.func86 (by kernel_rfl)) (by simp [c_cloneE]) ?_)
  simp only [tiny] at hl
  simp [c_cloneE, kNil]
  refine ⟨?_, fun h0 => by
    have : l = [] := List.eq_nil_of_length_eq_zero (by have := len_edL l; rw [h0] at this; simp at this; omega)
    subst this; simp [rowIs]⟩
  by_cases h0 : l = []
  · subst h0
    simp [kApp, evApp, rowIs, edL]
  · have hpos : 0 < l.length := List.length_pos_iff.2 h0
    refine kApp_grow (n := 0) (cs := []) (ts := edL l) (by simp) outR_nil hpos (by simp [len_edL]) (by omega) (by omega) fun E hE hob hcnt => ?_
    obtain ⟨u, hu⟩ := hE.one
    rw [hu] at hE
    simp [hu]
    simpa using hE.rowIs

def c_scopied : MFunc := ⟨10, [.cell 2 true 2], .seq (.region [⟨some 1, .box 0 25 (.tmp 0), none⟩, ⟨some 2, .alloc 1 25 [.nil, .nil], none⟩]) (.seq (.draw [[], [0], [1], [], [3], [4, 2], [2, 5], [6, 5, 0, 1, 2, 3, 4, 5, 6]] [⟨some 3, .fieldA 0 (.tmp 1), none⟩, ⟨some 4, .load false 1 (.tmp 3), none⟩, ⟨some 5, .call (.c (.one (.fn 25 []))) 66 [.tmp 4], none⟩, ⟨some 6, .fieldA 1 (.tmp 1), none⟩, ⟨some 7, .load false 1 (.tmp 6), none⟩, ⟨some 8, .call (.c (.one (.fn 86 []))) 69 [.tmp 7], none⟩, ⟨some 9, .build [.nil, .nil] [(0, (1, .tmp 5)), (1, (1, .tmp 8))], none⟩, ⟨none, .store 2 (.tmp 2) (.tmp 9), none⟩]) .ret)⟩
theorem k_scopied : cFn Tryz.prog Tryz.f46 = some c_scopied := by kernel_rfl
theorem scopied_ok (g : Gr) (h : tinyG g) : CallOK Tryz.prog 46 [g.v] (.sv g.v) := by
  refine callOK_W (callS_W (by kernel_rfl) Tryz.func46 k_scopied (callable_of Tryz.func46 (by kernel_rfl)) (by simp [c_scopied]) ?_)
  simp [c_scopied, dw0, dw1, dw2, dw3]
  refine dCall_ok (clone_row g.nodes h.1).ok ?_ ?_ ?_
  · rfl
  · rfl
  simp [dw0, dw1, dw2, dw3]
  refine dCall_ok (callOK_of_row (cloneE_row g.edges h.2)) ?_ ?_ ?_
  · rfl
  · rfl
  simp [dw0, dw1, dw2, dw3]
  rfl

def c_arrow : MFunc := ⟨10, [.cell 2 true 2], .seq (.region [⟨some 1, .box 0 27 (.tmp 0), none⟩, ⟨some 2, .alloc 1 27 [.nil, .nil], none⟩]) (.seq (.draw [[], [0], [1], [], [3], [4, 2], [2, 5], [6, 5, 0, 1, 2, 3, 4, 5, 6]] [⟨some 3, .fieldA 0 (.tmp 1), none⟩, ⟨some 4, .load false 1 (.tmp 3), none⟩, ⟨some 5, .call (.c (.one (.fn 25 []))) 66 [.tmp 4], none⟩, ⟨some 6, .fieldA 1 (.tmp 1), none⟩, ⟨some 7, .load false 1 (.tmp 6), none⟩, ⟨some 8, .call (.c (.one (.fn 25 []))) 69 [.tmp 7], none⟩, ⟨some 9, .build [.nil, .nil] [(0, (1, .tmp 5)), (1, (1, .tmp 8))], none⟩, ⟨none, .store 2 (.tmp 2) (.tmp 9), none⟩]) .ret)⟩
theorem k_arrow : cFn Tryz.prog Tryz.f63 = some c_arrow := by kernel_rfl
theorem arrow_ok (p : Pa) (hp : tinyP p) : CallOK Tryz.prog 63 [p.v] (.sv p.v) := by
  refine callOK_W (callS_W (by kernel_rfl) Tryz.func63 k_arrow (callable_of Tryz.func63 (by kernel_rfl)) (by simp [c_arrow]) ?_)
  simp [c_arrow, dw0, dw1, dw2, dw3]
  refine dCall_ok (clone_row p.nodes hp.1).ok ?_ ?_ ?_
  · rfl
  · rfl
  simp [dw0, dw1, dw2, dw3]
  refine dCall_ok (clone_row p.edges hp.2).ok ?_ ?_ ?_
  · rfl
  · rfl
  simp [dw0, dw1, dw2, dw3]
  rfl

def c_copied5 : MFunc := ⟨12, [.cell 2 true 2], .seq (.region [⟨some 1, .box 0 25 (.tmp 0), none⟩, ⟨some 2, .alloc 1 25 [.nil, .nil], none⟩]) (.seq (.draw [[], [], [1], [0, 2], [], [], [5], [4, 6, 3], [3, 7], [8, 7, 0, 1, 2, 3, 4, 5, 6, 7, 8]] [⟨some 3, .mkrow 64 3 1 0 [] [], none⟩, ⟨some 4, .fieldA 0 (.tmp 1), none⟩, ⟨some 5, .load false 1 (.tmp 4), none⟩, ⟨some 6, .append 67 3 1 8 (.tmp 3) (.tmp 5), none⟩, ⟨some 7, .mkrow 68 76 3 0 [] [], none⟩, ⟨some 8, .fieldA 1 (.tmp 1), none⟩, ⟨some 9, .load false 1 (.tmp 8), none⟩, ⟨some 10, .append 71 76 3 24 (.tmp 7) (.tmp 9), none⟩, ⟨some 11, .build [.nil, .nil] [(0, (1, .tmp 6)), (1, (1, .tmp 10))], none⟩, ⟨none, .store 2 (.tmp 2) (.tmp 11), none⟩]) .ret)⟩
theorem k_copied5 : cFn Tryz.prog Tryz.f52 = some c_copied5 := by kernel_rfl
theorem copied5_ok (g : Gr) (h : tinyG g) : CallOK Tryz.prog 52 [g.v] (.sv g.v) := by
  refine callOK_W (callS_W (by kernel_rfl) Tryz.func52 k_copied5 (callable_of Tryz.func52 (by kernel_rfl)) (by simp [c_copied5]) ?_)
  have h1 := h.1
  have h2 := h.2
  simp only [tiny] at h1 h2
  simp [c_copied5, dw0, dw1, dw2, dw3]
  refine kApp_nil (ts := g.nodes.map (.int .i64)) (by simp) (by simp) (by omega) (by omega) ?_
  by_cases e1 : g.nodes.length = 0 <;> by_cases e2 : g.edges.length = 0
  · have n1 : g.nodes = [] := List.eq_nil_of_length_eq_zero e1
    have n2 : g.edges = [] := List.eq_nil_of_length_eq_zero e2
    simp [dw0, dw1, dw2, dw3, rowEff, n1, n2]
    refine kApp_nil (ts := []) rfl rfl (by omega) (by omega) ?_
    simp [dw0, dw1, dw2, dw3, rowEff, n1, n2, edL]
    rfl
  · have n1 : g.nodes = [] := List.eq_nil_of_length_eq_zero e1
    simp [dw0, dw1, dw2, dw3, rowEff, n1]
    refine kApp_nil (ts := edL g.edges) (by simp) (len_edL _) (by omega) (by omega) ?_
    simp [dw0, dw1, dw2, dw3, rowEff, e2, untreeT]
    rfl
  · have n2 : g.edges = [] := List.eq_nil_of_length_eq_zero e2
    have n1 : ¬ g.nodes = [] := fun h => e1 (by rw [h]; rfl)
    simp [dw0, dw1, dw2, dw3, rowEff, n1, n2]
    refine kApp_nil (ts := []) rfl rfl (by omega) (by omega) ?_
    simp [dw0, dw1, dw2, dw3, rowEff, n1, n2, edL, untreeT, untreeI]
    rfl
  · have n1 : ¬ g.nodes = [] := fun h => e1 (by rw [h]; rfl)
    simp [dw0, dw1, dw2, dw3, rowEff, n1]
    refine kApp_nil (ts := edL g.edges) (by simp) (len_edL _) (by omega) (by omega) ?_
    simp [dw0, dw1, dw2, dw3, rowEff, e2, untreeT, untreeI]
    rfl

/-! ### Squares -/
structure Sq where
  A : Gr
  B : Gr
  C : Gr
  D : Gr
  F : Pa
  G : Pa
  H : Pa
  K : Pa
def Sq.cs (s : Sq) : List Abs.C := [ints s.A.nodes, edgs s.A.edges, ints s.B.nodes, edgs s.B.edges, ints s.C.nodes, edgs s.C.edges, ints s.D.nodes, edgs s.D.edges,
  ints s.F.nodes, ints s.F.edges, ints s.G.nodes, ints s.G.edges, ints s.H.nodes, ints s.H.edges, ints s.K.nodes, ints s.K.edges]
def Sq.v (s : Sq) : TV := (true, s.cs)
structure TinySq (s : Sq) : Prop where
  A : tinyG s.A
  B : tinyG s.B
  C : tinyG s.C
  D : tinyG s.D
  F : tinyP s.F
  G : tinyP s.G
  H : tinyP s.H
  K : tinyP s.K

/-- The error of a square. -/
def sqErr (s : Sq) : Int :=
  if morErr s.A s.B s.F = 0 then if morErr s.A s.C s.G = 0 then if morErr s.B s.D s.H = 0 then morErr s.C s.D s.K else morErr s.B s.D s.H else morErr s.A s.C s.G else morErr s.A s.B s.F

def c_svalidS : MFunc := ⟨43, [.tmp 2], .seq (.region [⟨some 1, .box 0 29 (.tmp 0), none⟩, ⟨some 2, .mv (.c (.one (.t (.int .i64 0)))), none⟩]) (.seq (.seq (.region [⟨some 6, .fieldA 0 (.tmp 1), none⟩, ⟨some 7, .load true 2 (.tmp 6), none⟩, ⟨some 8, .fieldA 2 (.tmp 1), none⟩, ⟨some 9, .load true 2 (.tmp 8), none⟩, ⟨some 10, .fieldA 8 (.tmp 1), none⟩, ⟨some 11, .load true 2 (.tmp 10), none⟩, ⟨some 12, .call (.c (.one (.fn 41 []))) 70 [.tmp 7, .tmp 9, .tmp 11], none⟩, ⟨some 3, .mv (.tmp 12), none⟩]) (.seq (.region [⟨some 13, .mv (.tmp 3), none⟩, ⟨some 14, .bin .neq (.tmp 13) (.c (.one (.t (.int .i64 0)))), none⟩]) (.cond (.tmp 14) (.seq (.region [⟨some 15, .mv (.tmp 3), none⟩, ⟨some 2, .mv (.tmp 15), none⟩]) .ret) .skip))) (.seq (.seq (.region [⟨some 16, .fieldA 0 (.tmp 1), none⟩, ⟨some 17, .load true 2 (.tmp 16), none⟩, ⟨some 18, .fieldA 4 (.tmp 1), none⟩, ⟨some 19, .load true 2 (.tmp 18), none⟩, ⟨some 20, .fieldA 10 (.tmp 1), none⟩, ⟨some 21, .load true 2 (.tmp 20), none⟩, ⟨some 22, .call (.c (.one (.fn 41 []))) 262 [.tmp 17, .tmp 19, .tmp 21], none⟩, ⟨some 4, .mv (.tmp 22), none⟩]) (.seq (.region [⟨some 23, .mv (.tmp 4), none⟩, ⟨some 24, .bin .neq (.tmp 23) (.c (.one (.t (.int .i64 0)))), none⟩]) (.cond (.tmp 24) (.seq (.region [⟨some 25, .mv (.tmp 4), none⟩, ⟨some 2, .mv (.tmp 25), none⟩]) .ret) .skip))) (.seq (.seq (.region [⟨some 26, .fieldA 2 (.tmp 1), none⟩, ⟨some 27, .load true 2 (.tmp 26), none⟩, ⟨some 28, .fieldA 6 (.tmp 1), none⟩, ⟨some 29, .load true 2 (.tmp 28), none⟩, ⟨some 30, .fieldA 12 (.tmp 1), none⟩, ⟨some 31, .load true 2 (.tmp 30), none⟩, ⟨some 32, .call (.c (.one (.fn 41 []))) 454 [.tmp 27, .tmp 29, .tmp 31], none⟩, ⟨some 5, .mv (.tmp 32), none⟩]) (.seq (.region [⟨some 33, .mv (.tmp 5), none⟩, ⟨some 34, .bin .neq (.tmp 33) (.c (.one (.t (.int .i64 0)))), none⟩]) (.cond (.tmp 34) (.seq (.region [⟨some 35, .mv (.tmp 5), none⟩, ⟨some 2, .mv (.tmp 35), none⟩]) .ret) .skip))) (.seq (.region [⟨some 36, .fieldA 4 (.tmp 1), none⟩, ⟨some 37, .load true 2 (.tmp 36), none⟩, ⟨some 38, .fieldA 6 (.tmp 1), none⟩, ⟨some 39, .load true 2 (.tmp 38), none⟩, ⟨some 40, .fieldA 14 (.tmp 1), none⟩, ⟨some 41, .load true 2 (.tmp 40), none⟩, ⟨some 42, .call (.c (.one (.fn 41 []))) 646 [.tmp 37, .tmp 39, .tmp 41], none⟩, ⟨some 2, .mv (.tmp 42), none⟩]) .ret))))⟩
theorem k_svalidS : cFn Tryz.prog Tryz.f40 = some c_svalidS := by kernel_rfl
theorem svalidS_ok (s : Sq) (h : TinySq s) : CallOK Tryz.prog 40 [s.v] (.sv (false, [.int .i64 (sqErr s)])) := by
  refine callOK_W (callS_W (by kernel_rfl) Tryz.func40 k_svalidS (callable_of Tryz.func40 (by kernel_rfl)) (by simp [c_svalidS]) ?_)
  simp [c_svalidS, Sq.v, Sq.cs]
  refine callS_tree (mvalid_ok s.A s.B s.F h.A h.B h.F) ?_ ?_ ?_
  · rfl
  · rfl
  by_cases h1 : morErr s.A s.B s.F = 0
  case neg => simp [h1, sqErr]
  simp [h1]
  refine callS_tree (mvalid_ok s.A s.C s.G h.A h.C h.G) ?_ ?_ ?_
  · rfl
  · rfl
  by_cases h2 : morErr s.A s.C s.G = 0
  case neg => simp [h1, h2, sqErr]
  simp [h1, h2]
  refine callS_tree (mvalid_ok s.B s.D s.H h.B h.D h.H) ?_ ?_ ?_
  · rfl
  · rfl
  by_cases h3 : morErr s.B s.D s.H = 0
  case neg => simp [h1, h2, h3, sqErr]
  simp [h1, h2, h3]
  refine callS_tree (mvalid_ok s.C s.D s.K h.C h.D h.K) ?_ ?_ ?_
  · rfl
  · rfl
  simp [h1, h2, h3, sqErr]

def c_rvalidS : MFunc := ⟨43, [.tmp 2], .seq (.region [⟨some 1, .box 0 29 (.tmp 0), none⟩, ⟨some 2, .mv (.c (.one (.t (.int .i64 0)))), none⟩]) (.seq (.seq (.region [⟨some 6, .fieldA 0 (.tmp 1), none⟩, ⟨some 7, .load true 2 (.tmp 6), none⟩, ⟨some 8, .fieldA 2 (.tmp 1), none⟩, ⟨some 9, .load true 2 (.tmp 8), none⟩, ⟨some 10, .fieldA 8 (.tmp 1), none⟩, ⟨some 11, .load true 2 (.tmp 10), none⟩, ⟨some 12, .call (.c (.one (.fn 48 []))) 70 [.tmp 7, .tmp 9, .tmp 11], none⟩, ⟨some 3, .mv (.tmp 12), none⟩]) (.seq (.region [⟨some 13, .mv (.tmp 3), none⟩, ⟨some 14, .bin .neq (.tmp 13) (.c (.one (.t (.int .i64 0)))), none⟩]) (.cond (.tmp 14) (.seq (.region [⟨some 15, .mv (.tmp 3), none⟩, ⟨some 2, .mv (.tmp 15), none⟩]) .ret) .skip))) (.seq (.seq (.region [⟨some 16, .fieldA 0 (.tmp 1), none⟩, ⟨some 17, .load true 2 (.tmp 16), none⟩, ⟨some 18, .fieldA 4 (.tmp 1), none⟩, ⟨some 19, .load true 2 (.tmp 18), none⟩, ⟨some 20, .fieldA 10 (.tmp 1), none⟩, ⟨some 21, .load true 2 (.tmp 20), none⟩, ⟨some 22, .call (.c (.one (.fn 48 []))) 262 [.tmp 17, .tmp 19, .tmp 21], none⟩, ⟨some 4, .mv (.tmp 22), none⟩]) (.seq (.region [⟨some 23, .mv (.tmp 4), none⟩, ⟨some 24, .bin .neq (.tmp 23) (.c (.one (.t (.int .i64 0)))), none⟩]) (.cond (.tmp 24) (.seq (.region [⟨some 25, .mv (.tmp 4), none⟩, ⟨some 2, .mv (.tmp 25), none⟩]) .ret) .skip))) (.seq (.seq (.region [⟨some 26, .fieldA 2 (.tmp 1), none⟩, ⟨some 27, .load true 2 (.tmp 26), none⟩, ⟨some 28, .fieldA 6 (.tmp 1), none⟩, ⟨some 29, .load true 2 (.tmp 28), none⟩, ⟨some 30, .fieldA 12 (.tmp 1), none⟩, ⟨some 31, .load true 2 (.tmp 30), none⟩, ⟨some 32, .call (.c (.one (.fn 48 []))) 454 [.tmp 27, .tmp 29, .tmp 31], none⟩, ⟨some 5, .mv (.tmp 32), none⟩]) (.seq (.region [⟨some 33, .mv (.tmp 5), none⟩, ⟨some 34, .bin .neq (.tmp 33) (.c (.one (.t (.int .i64 0)))), none⟩]) (.cond (.tmp 34) (.seq (.region [⟨some 35, .mv (.tmp 5), none⟩, ⟨some 2, .mv (.tmp 35), none⟩]) .ret) .skip))) (.seq (.region [⟨some 36, .fieldA 4 (.tmp 1), none⟩, ⟨some 37, .load true 2 (.tmp 36), none⟩, ⟨some 38, .fieldA 6 (.tmp 1), none⟩, ⟨some 39, .load true 2 (.tmp 38), none⟩, ⟨some 40, .fieldA 14 (.tmp 1), none⟩, ⟨some 41, .load true 2 (.tmp 40), none⟩, ⟨some 42, .call (.c (.one (.fn 48 []))) 646 [.tmp 37, .tmp 39, .tmp 41], none⟩, ⟨some 2, .mv (.tmp 42), none⟩]) .ret))))⟩
theorem k_rvalidS : cFn Tryz.prog Tryz.f47 = some c_rvalidS := by kernel_rfl
theorem rvalidS_ok (s : Sq) (h : TinySq s) : CallOK Tryz.prog 47 [s.v] (.sv (false, [.int .i64 (sqErr s)])) := by
  refine callOK_W (callS_W (by kernel_rfl) Tryz.func47 k_rvalidS (callable_of Tryz.func47 (by kernel_rfl)) (by simp [c_rvalidS]) ?_)
  simp [c_rvalidS, Sq.v, Sq.cs]
  refine callS_tree (rvalid6_ok s.A s.B s.F h.A h.B h.F) ?_ ?_ ?_
  · rfl
  · rfl
  by_cases h1 : morErr s.A s.B s.F = 0
  case neg => simp [h1, sqErr]
  simp [h1]
  refine callS_tree (rvalid6_ok s.A s.C s.G h.A h.C h.G) ?_ ?_ ?_
  · rfl
  · rfl
  by_cases h2 : morErr s.A s.C s.G = 0
  case neg => simp [h1, h2, sqErr]
  simp [h1, h2]
  refine callS_tree (rvalid6_ok s.B s.D s.H h.B h.D h.H) ?_ ?_ ?_
  · rfl
  · rfl
  by_cases h3 : morErr s.B s.D s.H = 0
  case neg => simp [h1, h2, h3, sqErr]
  simp [h1, h2, h3]
  refine callS_tree (rvalid6_ok s.C s.D s.K h.C h.D h.K) ?_ ?_ ?_
  · rfl
  · rfl
  simp [h1, h2, h3, sqErr]

structure SqOk (s : Sq) : Prop where
  F : MorOk s.A s.B s.F
  G : MorOk s.A s.C s.G
  H : MorOk s.B s.D s.H
  K : MorOk s.C s.D s.K
theorem sqErr_ok {s : Sq} (h : sqErr s = 0) : SqOk s := by
  unfold sqErr at h
  split at h
  · split at h
    · split at h
      · exact ⟨mor_ok (by assumption), mor_ok (by assumption), mor_ok (by assumption), mor_ok h⟩
      · exact absurd h (by assumption)
    · exact absurd h (by assumption)
  · exact absurd h (by assumption)
theorem MorOk.fits {a b c : Gr} {m n : Pa} (h : MorOk a b m) (k : MorOk b c n) : FitsP m n :=
  ⟨fun x hx => by rw [k.ln]; exact h.rn x hx, fun x hx => by rw [k.le]; exact h.re x hx⟩
theorem thenP_tiny {m n : Pa} (h : tinyP m) : tinyP (thenP m n) := ⟨by simp only [thenP, thru_len]; exact h.1, by simp only [thenP, thru_len]; exact h.2⟩

/-- Does it commute? -/
def commB (s : Sq) : Bool := sameP (thenP s.F s.H) (thenP s.G s.K)

def c_scomm : MFunc := ⟨14, [.tmp 2], .seq (.region [⟨some 1, .box 0 29 (.tmp 0), none⟩, ⟨some 2, .mv (.c (.one (.t (.bool false)))), none⟩]) (.seq (.draw [[], [0], [], [2], [1, 3], [], [5], [], [7], [6, 8, 4], [4, 9, 9], [10, 10, 0, 1, 2, 3, 4, 5, 6, 7, 8, 9, 10]] [⟨some 3, .fieldA 8 (.tmp 1), none⟩, ⟨some 4, .load true 2 (.tmp 3), none⟩, ⟨some 5, .fieldA 12 (.tmp 1), none⟩, ⟨some 6, .load true 2 (.tmp 5), none⟩, ⟨some 7, .call (.c (.one (.fn 44 []))) 68 [.tmp 4, .tmp 6], none⟩, ⟨some 8, .fieldA 10 (.tmp 1), none⟩, ⟨some 9, .load true 2 (.tmp 8), none⟩, ⟨some 10, .fieldA 14 (.tmp 1), none⟩, ⟨some 11, .load true 2 (.tmp 10), none⟩, ⟨some 12, .call (.c (.one (.fn 44 []))) 73 [.tmp 9, .tmp 11], none⟩, ⟨some 13, .call (.c (.one (.fn 80 []))) 74 [.tmp 7, .tmp 12], none⟩, ⟨some 2, .mv (.tmp 13), none⟩]) .ret)⟩
theorem k_scomm : cFn Tryz.prog Tryz.f42 = some c_scomm := by kernel_rfl
theorem scomm_ok (s : Sq) (h : TinySq s) (ho : SqOk s) : CallOK Tryz.prog 42 [s.v] (.sv (false, [.bool (commB s)])) := by
  refine callOK_W (callS_W (by kernel_rfl) Tryz.func42 k_scomm (callable_of Tryz.func42 (by kernel_rfl)) (by simp [c_scomm]) ?_)
  simp [c_scomm, dw0, dw1, dw2, dw3, Sq.v, Sq.cs]
  refine dCall_ok (sthen_ok s.F s.H h.F (ho.F.fits ho.H)) ?_ ?_ ?_
  · rfl
  · rfl
  simp [dw0, dw1, dw2, dw3]
  refine dCall_ok (sthen_ok s.G s.K h.G (ho.G.fits ho.K)) ?_ ?_ ?_
  · rfl
  · rfl
  simp [dw0, dw1, dw2, dw3]
  refine dCall_ok (msame_ok (thenP s.F s.H) (thenP s.G s.K) (thenP_tiny h.F) (thenP_tiny h.G)) ?_ ?_ ?_
  · rfl
  · rfl
  simp [dw0, dw1, dw2, dw3, commB]
  rfl

def c_rcomm : MFunc := ⟨14, [.tmp 2], .seq (.region [⟨some 1, .box 0 29 (.tmp 0), none⟩, ⟨some 2, .mv (.c (.one (.t (.bool false)))), none⟩]) (.seq (.draw [[], [0], [], [2], [1, 3], [], [5], [], [7], [6, 8, 4], [4, 9, 9], [10, 10, 0, 1, 2, 3, 4, 5, 6, 7, 8, 9, 10]] [⟨some 3, .fieldA 8 (.tmp 1), none⟩, ⟨some 4, .load true 2 (.tmp 3), none⟩, ⟨some 5, .fieldA 12 (.tmp 1), none⟩, ⟨some 6, .load true 2 (.tmp 5), none⟩, ⟨some 7, .call (.c (.one (.fn 39 []))) 68 [.tmp 4, .tmp 6], none⟩, ⟨some 8, .fieldA 10 (.tmp 1), none⟩, ⟨some 9, .load true 2 (.tmp 8), none⟩, ⟨some 10, .fieldA 14 (.tmp 1), none⟩, ⟨some 11, .load true 2 (.tmp 10), none⟩, ⟨some 12, .call (.c (.one (.fn 39 []))) 73 [.tmp 9, .tmp 11], none⟩, ⟨some 13, .call (.c (.one (.fn 23 []))) 74 [.tmp 7, .tmp 12], none⟩, ⟨some 2, .mv (.tmp 13), none⟩]) .ret)⟩
theorem k_rcomm : cFn Tryz.prog Tryz.f49 = some c_rcomm := by kernel_rfl
theorem rcomm_ok (s : Sq) (h : TinySq s) (ho : SqOk s) : CallOK Tryz.prog 49 [s.v] (.sv (false, [.bool (commB s)])) := by
  refine callOK_W (callS_W (by kernel_rfl) Tryz.func49 k_rcomm (callable_of Tryz.func49 (by kernel_rfl)) (by simp [c_rcomm]) ?_)
  simp [c_rcomm, dw0, dw1, dw2, dw3, Sq.v, Sq.cs]
  refine dCall_ok (then6_ok s.F s.H h.F (ho.F.fits ho.H)) ?_ ?_ ?_
  · rfl
  · rfl
  simp [dw0, dw1, dw2, dw3]
  refine dCall_ok (then6_ok s.G s.K h.G (ho.G.fits ho.K)) ?_ ?_ ?_
  · rfl
  · rfl
  simp [dw0, dw1, dw2, dw3]
  refine dCall_ok (rsame_ok (thenP s.F s.H) (thenP s.G s.K) (thenP_tiny h.F) (thenP_tiny h.G)) ?_ ?_ ?_
  · rfl
  · rfl
  simp [dw0, dw1, dw2, dw3, commB]
  rfl

/-- Whether it commutes, or an error. -/
def commR (s : Sq) : Bool × Int := if sqErr s = 0 then (commB s, 0) else (false, sqErr s)

def c_sCommX : MFunc := ⟨12, [.tmp 2, .tmp 3], .seq (.region [⟨some 1, .box 0 29 (.tmp 0), none⟩, ⟨some 2, .mv (.c (.one (.t (.bool false)))), none⟩, ⟨some 3, .mv (.c (.one (.t (.int .i64 0)))), none⟩]) (.seq (.seq (.region [⟨some 5, .load true 16 (.tmp 1), none⟩, ⟨some 6, .call (.c (.one (.fn 40 []))) 65 [.tmp 5], none⟩, ⟨some 4, .mv (.tmp 6), none⟩]) (.seq (.region [⟨some 7, .mv (.tmp 4), none⟩, ⟨some 8, .bin .neq (.tmp 7) (.c (.one (.t (.int .i64 0)))), none⟩]) (.cond (.tmp 8) (.seq (.region [⟨some 9, .mv (.tmp 4), none⟩, ⟨some 2, .mv (.c (.one (.t (.bool false)))), none⟩, ⟨some 3, .mv (.tmp 9), none⟩]) .ret) .skip))) (.seq (.region [⟨some 10, .load true 16 (.tmp 1), none⟩, ⟨some 11, .call (.c (.one (.fn 42 []))) 257 [.tmp 10], none⟩, ⟨some 2, .mv (.tmp 11), none⟩, ⟨some 3, .mv (.c (.one (.t (.int .i64 0)))), none⟩]) .ret))⟩
theorem k_sCommX : cFn Tryz.prog Tryz.f34 = some c_sCommX := by kernel_rfl
theorem sCommX_ok (s : Sq) (h : TinySq s) : CallOK Tryz.prog 34 [s.v] (.tup [(false, [.bool (commR s).1]), (false, [.int .i64 (commR s).2])]) := by
  refine callOK_W (callS_W (by kernel_rfl) Tryz.func34 k_sCommX (callable_of Tryz.func34 (by kernel_rfl)) (by simp [c_sCommX]) ?_)
  simp [c_sCommX, Sq.v, Sq.cs]
  refine callS_tree (svalidS_ok s h) ?_ ?_ ?_
  · rfl
  · rfl
  by_cases h1 : sqErr s = 0
  case neg => simp [h1, commR]
  simp [h1, commR]
  refine callS_tree (scomm_ok s h (sqErr_ok h1)) ?_ ?_ ?_
  · rfl
  · rfl
  simp [h1]

def c_rCommX : MFunc := ⟨12, [.tmp 2, .tmp 3], .seq (.region [⟨some 1, .box 0 29 (.tmp 0), none⟩, ⟨some 2, .mv (.c (.one (.t (.bool false)))), none⟩, ⟨some 3, .mv (.c (.one (.t (.int .i64 0)))), none⟩]) (.seq (.seq (.region [⟨some 5, .load true 16 (.tmp 1), none⟩, ⟨some 6, .call (.c (.one (.fn 47 []))) 65 [.tmp 5], none⟩, ⟨some 4, .mv (.tmp 6), none⟩]) (.seq (.region [⟨some 7, .mv (.tmp 4), none⟩, ⟨some 8, .bin .neq (.tmp 7) (.c (.one (.t (.int .i64 0)))), none⟩]) (.cond (.tmp 8) (.seq (.region [⟨some 9, .mv (.tmp 4), none⟩, ⟨some 2, .mv (.c (.one (.t (.bool false)))), none⟩, ⟨some 3, .mv (.tmp 9), none⟩]) .ret) .skip))) (.seq (.region [⟨some 10, .load true 16 (.tmp 1), none⟩, ⟨some 11, .call (.c (.one (.fn 49 []))) 257 [.tmp 10], none⟩, ⟨some 2, .mv (.tmp 11), none⟩, ⟨some 3, .mv (.c (.one (.t (.int .i64 0)))), none⟩]) .ret))⟩
theorem k_rCommX : cFn Tryz.prog Tryz.f35 = some c_rCommX := by kernel_rfl
theorem rCommX_ok (s : Sq) (h : TinySq s) : CallOK Tryz.prog 35 [s.v] (.tup [(false, [.bool (commR s).1]), (false, [.int .i64 (commR s).2])]) := by
  refine callOK_W (callS_W (by kernel_rfl) Tryz.func35 k_rCommX (callable_of Tryz.func35 (by kernel_rfl)) (by simp [c_rCommX]) ?_)
  simp [c_rCommX, Sq.v, Sq.cs]
  refine callS_tree (rvalidS_ok s h) ?_ ?_ ?_
  · rfl
  · rfl
  by_cases h1 : sqErr s = 0
  case neg => simp [h1, commR]
  simp [h1, commR]
  refine callS_tree (rcomm_ok s h (sqErr_ok h1)) ?_ ?_ ?_
  · rfl
  · rfl
  simp [h1]
end Go.Proofs.YthcnpnogfblkcaaGreat

/- Contracts: pairs of places with equal numbers, and where a pair is. -/
namespace Go.Proofs.YthcnpnogfblkcaaGreat
open Abs
set_option linter.unusedSimpArgs false
set_option linter.unusedVariables false
attribute [local simp] rn0 rn1 rn2 rn3 rn4 rn5 rn6 rn7 evOp nests Arg.ev St.val St.set St.new sliceOf binInt2 binInt AV.cells rdAt St.live retOf resOf resAll treeOf treeCell treeCells treeTups untree frameOf TV.av TR.av ints edgs prs fillV splice intsOf trees V1.tree bx Gr.v Pa.v opRd opWr opNew opNewR opArgs argsRd argRd Arg.rd AV.refs V1.refs refsL dstL

theorem pth_eq' {l : List (Int × Int)} {k : Nat} (h : k < l.length) : pth l k = l[k] := by simp [pth, h]
theorem pth_mem {l : List (Int × Int)} {k : Nat} (h : k < l.length) : pth l k ∈ l := by rw [pth_eq' h]; exact List.getElem_mem h
theorem mem_pth {l : List (Int × Int)} {n : Int × Int} (h : n ∈ l) : ∃ k, k < l.length ∧ pth l k = n := by
  obtain ⟨k, hk, rfl⟩ := List.mem_iff_getElem.1 h
  exact ⟨k, hk, pth_eq' hk⟩
theorem take_succ_pth {l : List (Int × Int)} {k : Nat} (h : k < l.length) : l.take (k + 1) = l.take k ++ [pth l k] := by
  rw [List.take_succ_eq_append_getElem h, pth_eq' h]

/-- Where a pair is, or -1. -/
def idxP (l : List (Int × Int)) (q : Int × Int) : Int := if q ∈ l then (l.idxOf q : Nat) else -1
theorem idxP_at {l : List (Int × Int)} {n : Int × Int} {k : Nat} (hk : k < l.length) (hn : n ∉ l.take k) (he : pth l k = n) : idxP l n = k := by
  have hm : n ∈ l := he ▸ pth_mem hk
  simp only [idxP, if_pos hm]
  rw [pth_eq' hk] at he
  have h : l.idxOf n = k := by
    have e : l = l.take k ++ l[k] :: l.drop (k + 1) := by simp
    rw [e, List.idxOf_append, if_neg hn, he]
    simp [List.length_take]
    omega
  rw [h]
theorem take_pth {l : List (Int × Int)} {k : Nat} {n : Int × Int} (h : k < l.length) (hn : n ∉ l.take k) (hk : pth l k ≠ n) : n ∉ l.take (k + 1) := by
  rw [take_succ_pth h, List.mem_append]
  rintro (h1 | h1)
  · exact hn h1
  · simp at h1
    exact hk h1.symm
theorem idxP_none {l : List (Int × Int)} {q : Int × Int} (h : q ∉ l) : idxP l q = -1 := by simp [idxP, h]
theorem idxP_pos {l : List (Int × Int)} {q : Int × Int} : 0 ≤ idxP l q ↔ q ∈ l := by
  by_cases h : q ∈ l <;> simp [idxP, h]
theorem idxP_lt {l : List (Int × Int)} {q : Int × Int} (h : q ∈ l) : idxP l q < l.length := by
  simp only [idxP, if_pos h]
  have := List.idxOf_lt_length_of_mem h
  omega
theorem idxP_get {l : List (Int × Int)} {q : Int × Int} (h : q ∈ l) : pth l (idxP l q).toNat = q := by
  have := List.idxOf_lt_length_of_mem h
  simp only [idxP, if_pos h, Int.toNat_natCast]
  rw [pth_eq' this]
  simp

def c_indexP : MFunc := ⟨19, [.tmp 4], .seq (.region [⟨some 3, .box 0 121 (.tmp 1), none⟩, ⟨some 4, .mv (.c (.one (.t (.int .i64 0)))), none⟩]) (.seq (.seq (.region [⟨some 6, .mv (.tmp 0), none⟩, ⟨some 7, .len (.tmp 6), none⟩, ⟨some 8, .mv (.c (.one (.t (.int .i64 0)))), none⟩]) (.block 0 (.loop (.seq (.region [⟨some 9, .bin .lss (.tmp 8) (.tmp 7), none⟩]) (.seq (.cond (.tmp 9) .skip (.exit 0)) (.seq (.block 1 (.seq (.region [⟨some 10, .mv (.tmp 8), none⟩, ⟨some 5, .mv (.tmp 10), none⟩]) (.seq (.draw [[], [], [], [1, 2], [3], [0, 4]] [⟨some 11, .load true 2 (.tmp 3), none⟩, ⟨some 12, .mv (.tmp 0), none⟩, ⟨some 13, .mv (.tmp 5), none⟩, ⟨some 14, .idxA 2 (.tmp 12) (.tmp 13), none⟩, ⟨some 15, .load true 2 (.tmp 14), none⟩, ⟨some 16, .eqS false 2 (.tmp 11) (.tmp 15), none⟩]) (.cond (.tmp 16) (.seq (.region [⟨some 17, .mv (.tmp 5), none⟩, ⟨some 4, .mv (.tmp 17), none⟩]) .ret) .skip)))) (.region [⟨some 18, .bin .add (.tmp 8) (.c (.one (.t (.int .i64 1)))), none⟩, ⟨some 8, .mv (.tmp 18), none⟩]))))))) (.seq (.region [⟨some 4, .mv (.c (.one (.t (.int .i64 (-1))))), none⟩]) .ret))⟩
theorem k_indexP : cFn Tryz.prog Tryz.f127 = some c_indexP := by kernel_rfl
theorem indexP_ok (l : List (Int × Int)) (a b : Int) (hl : tiny l.length) : CallOK Tryz.prog 127 [(false, [prs l]), (true, [.int .i64 a, .int .i64 b])] (.sv (false, [.int .i64 (idxP l (a, b))])) := by
  refine callOK_W (callS_W (by kernel_rfl) Tryz.func127 k_indexP (callable_of Tryz.func127 (by kernel_rfl)) (by simp [c_indexP]) ?_)
  simp [c_indexP]
  refine loopW_count 8 l.length (fun k S => S.fr 0 = .one (.t (prs l)) ∧ S.fr 3 = .one (.ptr (0, 0) 0) ∧ S.fr 7 = .one (.t (.int .i64 l.length)) ∧ S.ob (0, 0) = some (bx 121 [.t (.int .i64 a), .t (.int .i64 b)]) ∧ (a, b) ∉ l.take k) hl.small ?_ ?_ ?_
  · simp
  · rintro k S hlt hw hc ⟨f0, f3, f7, o0, hp⟩
    have hlt2 : k * 2 < l.length * 2 := by omega
    by_cases he : pth l k = (a, b)
    · have e1 : (pth l k).1 = a := by rw [he]
      have e2 : (pth l k).2 = b := by rw [he]
      simp [dw0, dw1, dw2, dw3, f0, f3, f7, o0, hc, hlt, hlt2, drop_prL hlt, e1, e2, idxP_at hlt hp he]
      rfl
    · have hb : (decide (a = (pth l k).1) && decide (b = (pth l k).2)) = false := by
        rw [Bool.eq_false_iff]
        intro h
        simp at h
        exact he (by rw [h.1, h.2])
      simp [dw0, dw1, dw2, dw3, f0, f3, f7, o0, hc, hlt, hlt2, drop_prL hlt, hw]
      rw [hb]
      refine ⟨rfl, ?_⟩
      simp [f0, f3, f7, o0, hc, hw]
      exact take_pth hlt hp he
  · rintro S hc ⟨f0, f3, f7, o0, hp⟩
    rw [List.take_length] at hp
    simp [f0, f3, f7, hc, idxP_none hp]

def c_place : MFunc := ⟨31, [.tmp 6], .seq (.region [⟨some 6, .mv (.c (.one (.t (.int .i64 0)))), none⟩]) (.seq (.seq (.region [⟨some 7, .mv (.c (.one (.t (.int .i64 0)))), none⟩]) (.block 0 (.loop (.seq (.seq (.region [⟨some 8, .mv (.tmp 7), none⟩, ⟨some 9, .mv (.tmp 0), none⟩, ⟨some 10, .len (.tmp 9), none⟩, ⟨some 11, .bin .lss (.tmp 8) (.tmp 10), none⟩]) (.cond (.tmp 11) .skip (.exit 0))) (.seq (.block 1 (.seq (.region [⟨some 14, .mv (.tmp 0), none⟩, ⟨some 15, .mv (.tmp 7), none⟩, ⟨some 16, .idxA 2 (.tmp 14) (.tmp 15), none⟩, ⟨some 17, .fieldA 0 (.tmp 16), none⟩, ⟨some 18, .load false 1 (.tmp 17), none⟩, ⟨some 19, .mv (.tmp 1), none⟩, ⟨some 20, .bin .eql (.tmp 18) (.tmp 19), none⟩, ⟨some 21, .mv (.tmp 20), none⟩, ⟨some 22, .mv (.tmp 0), some (21, true)⟩, ⟨some 23, .mv (.tmp 7), some (21, true)⟩, ⟨some 24, .idxA 2 (.tmp 22) (.tmp 23), some (21, true)⟩, ⟨some 25, .fieldA 1 (.tmp 24), some (21, true)⟩, ⟨some 26, .load false 1 (.tmp 25), some (21, true)⟩, ⟨some 27, .mv (.tmp 2), some (21, true)⟩, ⟨some 28, .bin .eql (.tmp 26) (.tmp 27), some (21, true)⟩, ⟨some 29, .pick (.tmp 21) (.tmp 28) (.c (.one (.t (.bool false)))), none⟩]) (.cond (.tmp 29) (.seq (.region [⟨some 30, .mv (.tmp 7), none⟩, ⟨some 6, .mv (.tmp 30), none⟩]) .ret) .skip))) (.region [⟨some 12, .mv (.tmp 7), none⟩, ⟨some 13, .bin .add (.tmp 12) (.c (.one (.t (.int .i64 1)))), none⟩, ⟨some 7, .mv (.tmp 13), none⟩])))))) (.seq (.region [⟨some 6, .mv (.c (.one (.t (.int .i64 (-1))))), none⟩]) .ret))⟩
theorem k_place : cFn Tryz.prog Tryz.f90 = some c_place := by kernel_rfl
theorem place_ok (l : List (Int × Int)) (a b : Int) (hl : tiny l.length) : CallOK Tryz.prog 90 [(false, [prs l]), (false, [.int .i64 a]), (false, [.int .i64 b])] (.sv (false, [.int .i64 (idxP l (a, b))])) := by
  refine callOK_W (callS_W (by kernel_rfl) Tryz.func90 k_place (callable_of Tryz.func90 (by kernel_rfl)) (by simp [c_place]) ?_)
  simp [c_place]
  refine loopW_count 7 l.length (fun k S => S.fr 0 = .one (.t (prs l)) ∧ S.fr 1 = .one (.t (.int .i64 a)) ∧ S.fr 2 = .one (.t (.int .i64 b)) ∧ (a, b) ∉ l.take k) hl.small ?_ ?_ ?_
  · simp
  · rintro k S hlt hw hc ⟨f0, f1, f2, hp⟩
    have hlt2 : k * 2 < l.length * 2 := by omega
    by_cases e1 : (pth l k).1 = a
    · by_cases e2 : (pth l k).2 = b
      · simp [f0, f1, f2, hc, hlt, hlt2, drop_prL hlt, e1, e2, idxP_at hlt hp (Prod.ext e1 e2)]
      · simp [f0, f1, f2, hc, hlt, hlt2, drop_prL hlt, e1, e2, hw]
        exact take_pth hlt hp fun h => e2 (by rw [h])
    · simp [f0, f1, f2, hc, hlt, hlt2, drop_prL hlt, e1, hw]
      exact take_pth hlt hp fun h => e1 (by rw [h])
  · rintro S hc ⟨f0, f1, f2, hp⟩
    rw [List.take_length] at hp
    simp [f0, f1, f2, hc, idxP_none hp]

theorem sides_at {p q : List Int} {k : Nat} (h1 : k < p.length) (h2 : p.length = q.length) : pth (p.zip q) k = (nth p k, nth q k) := by
  rw [pth_eq' (by simp; omega), nth_eq h1, nth_eq (by omega)]
  simp

def c_first : MFunc := ⟨31, [.tmp 8], .seq (.region [⟨some 8, .mv (.c (.one (.t (.int .i64 0)))), none⟩]) (.seq (.seq (.region [⟨some 9, .mv (.c (.one (.t (.int .i64 0)))), none⟩]) (.block 0 (.loop (.seq (.seq (.region [⟨some 10, .mv (.tmp 9), none⟩, ⟨some 11, .mv (.tmp 0), none⟩, ⟨some 12, .len (.tmp 11), none⟩, ⟨some 13, .bin .lss (.tmp 10) (.tmp 12), none⟩]) (.cond (.tmp 13) .skip (.exit 0))) (.seq (.block 1 (.seq (.region [⟨some 16, .mv (.tmp 0), none⟩, ⟨some 17, .mv (.tmp 9), none⟩, ⟨some 18, .idxA 1 (.tmp 16) (.tmp 17), none⟩, ⟨some 19, .load false 1 (.tmp 18), none⟩, ⟨some 20, .mv (.tmp 2), none⟩, ⟨some 21, .bin .eql (.tmp 19) (.tmp 20), none⟩, ⟨some 22, .mv (.tmp 21), none⟩, ⟨some 23, .mv (.tmp 1), some (22, true)⟩, ⟨some 24, .mv (.tmp 9), some (22, true)⟩, ⟨some 25, .idxA 1 (.tmp 23) (.tmp 24), some (22, true)⟩, ⟨some 26, .load false 1 (.tmp 25), some (22, true)⟩, ⟨some 27, .mv (.tmp 3), some (22, true)⟩, ⟨some 28, .bin .eql (.tmp 26) (.tmp 27), some (22, true)⟩, ⟨some 29, .pick (.tmp 22) (.tmp 28) (.c (.one (.t (.bool false)))), none⟩]) (.cond (.tmp 29) (.seq (.region [⟨some 30, .mv (.tmp 9), none⟩, ⟨some 8, .mv (.tmp 30), none⟩]) .ret) .skip))) (.region [⟨some 14, .mv (.tmp 9), none⟩, ⟨some 15, .bin .add (.tmp 14) (.c (.one (.t (.int .i64 1)))), none⟩, ⟨some 9, .mv (.tmp 15), none⟩])))))) (.seq (.region [⟨some 8, .mv (.c (.one (.t (.int .i64 (-1))))), none⟩]) .ret))⟩
theorem k_first : cFn Tryz.prog Tryz.f92 = some c_first := by kernel_rfl
theorem first_ok (p q : List Int) (a b : Int) (hl : tiny p.length) (hq : p.length = q.length) : CallOK Tryz.prog 92 [(false, [ints p]), (false, [ints q]), (false, [.int .i64 a]), (false, [.int .i64 b])] (.sv (false, [.int .i64 (idxP (p.zip q) (a, b))])) := by
  refine callOK_W (callS_W (by kernel_rfl) Tryz.func92 k_first (callable_of Tryz.func92 (by kernel_rfl)) (by simp [c_first]) ?_)
  simp [c_first]
  have hz : (p.zip q).length = p.length := by simp; omega
  refine loopW_count 9 p.length (fun k S => S.fr 0 = .one (.t (ints p)) ∧ S.fr 1 = .one (.t (ints q)) ∧ S.fr 2 = .one (.t (.int .i64 a)) ∧ S.fr 3 = .one (.t (.int .i64 b)) ∧ (a, b) ∉ (p.zip q).take k) hl.small ?_ ?_ ?_
  · simp
  · rintro k S hlt hw hc ⟨f0, f1, f2, f3, hp⟩
    have hlt' : k < q.length := by omega
    have hs := sides_at hlt hq
    by_cases e1 : nth p k = a
    · by_cases e2 : nth q k = b
      · simp [f0, f1, f2, f3, hc, hlt, hlt', drop_nth hlt, drop_nth hlt', e1, e2, idxP_at (by omega) hp (hs.trans (Prod.ext e1 e2))]
      · simp [f0, f1, f2, f3, hc, hlt, hlt', drop_nth hlt, drop_nth hlt', e1, e2, hw]
        exact take_pth (by omega) hp fun h => e2 (by rw [hs] at h; exact (Prod.mk.inj h).2)
    · simp [f0, f1, f2, f3, hc, hlt, hlt', drop_nth hlt, drop_nth hlt', e1, hw]
      exact take_pth (by omega) hp fun h => e1 (by rw [hs] at h; exact (Prod.mk.inj h).1)
  · rintro S hc ⟨f0, f1, f2, f3, hp⟩
    rw [List.take_of_length_le (by omega)] at hp
    simp [f0, f1, f2, f3, hc, idxP_none hp]

/-- The pairs of places with equal numbers. -/
def pbF (f g : List Int) (i k : Nat) : Option (Int × Int) := if nth f i = nth g k then some ((i : Int), (k : Int)) else none
def pbP (f g : List Int) : List (Int × Int) := gather (fun i => collect (pbF f g i) g.length) f.length
theorem pbP_len {f g : List Int} {a b : Nat} (h1 : f.length ≤ a) (h2 : g.length ≤ b) : (pbP f g).length ≤ a * b := by
  have := gather_len (f := fun i => collect (pbF f g i) g.length) (m := g.length) (fun j => collect_len) f.length
  have g2 : f.length * g.length ≤ a * b := Nat.mul_le_mul h1 h2
  simp only [pbP]
  omega
theorem mem_pbP {f g : List Int} {q : Int × Int} : q ∈ pbP f g ↔ ∃ i k : Nat, i < f.length ∧ k < g.length ∧ nth f i = nth g k ∧ q = ((i : Int), (k : Int)) := by
  simp only [pbP, mem_gather, mem_collect, pbF]
  constructor
  · rintro ⟨i, hi, k, hk, h⟩
    split at h
    · injection h with h
      exact ⟨i, k, hi, hk, by assumption, h.symm⟩
    · cases h
  · rintro ⟨i, k, hi, hk, h, rfl⟩
    exact ⟨i, hi, k, hk, by rw [if_pos h]⟩

def c_pbpairs : MFunc := ⟨36, [.tmp 4], .seq (.region [⟨some 4, .mv (.c (.one .nil)), none⟩]) (.seq (.region [⟨some 5, .mv (.c (.one .nil)), none⟩]) (.seq (.seq (.region [⟨some 10, .mv (.tmp 0), none⟩, ⟨some 11, .len (.tmp 10), none⟩, ⟨some 12, .mv (.c (.one (.t (.int .i64 0)))), none⟩]) (.block 0 (.loop (.seq (.region [⟨some 13, .bin .lss (.tmp 12) (.tmp 11), none⟩]) (.seq (.cond (.tmp 13) .skip (.exit 0)) (.seq (.block 1 (.seq (.region [⟨some 14, .mv (.tmp 12), none⟩, ⟨some 15, .idxA 1 (.tmp 10) (.tmp 12), none⟩, ⟨some 16, .load false 1 (.tmp 15), none⟩, ⟨some 6, .mv (.tmp 14), none⟩, ⟨some 7, .mv (.tmp 16), none⟩]) (.seq (.region [⟨some 17, .mv (.tmp 1), none⟩, ⟨some 18, .len (.tmp 17), none⟩, ⟨some 19, .mv (.c (.one (.t (.int .i64 0)))), none⟩]) (.block 2 (.loop (.seq (.region [⟨some 20, .bin .lss (.tmp 19) (.tmp 18), none⟩]) (.seq (.cond (.tmp 20) .skip (.exit 2)) (.seq (.block 3 (.seq (.region [⟨some 21, .mv (.tmp 19), none⟩, ⟨some 22, .idxA 1 (.tmp 17) (.tmp 19), none⟩, ⟨some 23, .load false 1 (.tmp 22), none⟩, ⟨some 8, .mv (.tmp 21), none⟩, ⟨some 9, .mv (.tmp 23), none⟩]) (.seq (.region [⟨some 24, .mv (.tmp 7), none⟩, ⟨some 25, .mv (.tmp 9), none⟩, ⟨some 26, .bin .eql (.tmp 24) (.tmp 25), none⟩]) (.cond (.tmp 26) (.region [⟨some 27, .mv (.tmp 5), none⟩, ⟨some 28, .mv (.tmp 6), none⟩, ⟨some 29, .mv (.tmp 8), none⟩, ⟨some 30, .build [.t (.int .i64 0), .t (.int .i64 0)] [(0, (1, .tmp 28)), (1, (1, .tmp 29))], none⟩, ⟨some 31, .mkrow 580 121 2 1 [.t (.int .i64 0), .t (.int .i64 0)] [(0, (2, .tmp 30))], none⟩, ⟨some 32, .append 581 121 2 16 (.tmp 27) (.tmp 31), none⟩, ⟨some 5, .mv (.tmp 32), none⟩]) .skip)))) (.region [⟨some 33, .bin .add (.tmp 19) (.c (.one (.t (.int .i64 1)))), none⟩, ⟨some 19, .mv (.tmp 33), none⟩]))))))))) (.region [⟨some 34, .bin .add (.tmp 12) (.c (.one (.t (.int .i64 1)))), none⟩, ⟨some 12, .mv (.tmp 34), none⟩]))))))) (.seq (.region [⟨some 35, .mv (.tmp 5), none⟩, ⟨some 4, .mv (.tmp 35), none⟩]) .ret)))⟩
theorem k_pbpairs : cFn Tryz.prog Tryz.f126 = some c_pbpairs := by kernel_rfl
theorem pbpairs_row (f g : List Int) (hf : f.length ≤ 1000) (hg : g.length ≤ 1000) : CallRow Tryz.prog 126 [(false, [ints f]), (false, [ints g])] 121 2 (pbP f g).length (prL (pbP f g)) := by
  refine callRow_W (plain_prL _) (len_prL _) (by omega) (callS_W (by kernel_rfl) Tryz.func126 k_pbpairs (callable_of Tryz.func126 (by kernel_rfl)) (by simp [c_pbpairs]) ?_)
  simp [c_pbpairs]
  refine loopW_count 12 f.length (fun k S => S.fr 1 = .one (.t (ints g)) ∧ S.fr 10 = .one (.t (ints f)) ∧ S.fr 11 = .one (.t (.int .i64 f.length)) ∧
    outR 581 121 2 (gather (fun i => collect (pbF f g i) g.length) k).length (prL (gather (fun i => collect (pbF f g i) g.length) k)) S.ob (S.fr 5)) (by omega) ?_ ?_ ?_
  · simp [gather_zero, prL, outR_nil]
  · rintro k S hlt hw hc ⟨f1, f10, f11, ho⟩
    simp [f1, f10, f11, hc, hlt, hw, drop_nth hlt]
    have glen := gather_len (f := fun i => collect (pbF f g i) g.length) (m := g.length) (fun j => collect_len) k
    have g2 : k * g.length ≤ 1000 * 1000 := Nat.mul_le_mul (by omega) hg
    refine loopW_count 19 g.length (fun j S => S.fr 1 = .one (.t (ints g)) ∧ S.fr 10 = .one (.t (ints f)) ∧ S.fr 11 = .one (.t (.int .i64 f.length)) ∧ S.fr 12 = .one (.t (.int .i64 k)) ∧ S.fr 6 = .one (.t (.int .i64 k)) ∧ S.fr 7 = .one (.t (.int .i64 (nth f k))) ∧ S.fr 17 = .one (.t (ints g)) ∧ S.fr 18 = .one (.t (.int .i64 g.length)) ∧
      outR 581 121 2 (gather (fun i => collect (pbF f g i) g.length) k ++ collect (pbF f g k) j).length (prL (gather (fun i => collect (pbF f g i) g.length) k ++ collect (pbF f g k) j)) S.ob (S.fr 5)) (by omega) ?_ ?_ ?_
    · simp [f1, f10, f11, hc, collect_zero]
      simpa using ho
    · rintro j S' hlt' hw' hc' ⟨f1, f10, f11, f12, f6, f7, f17, f18, ho⟩
      have hlen : (gather (fun i => collect (pbF f g i) g.length) k ++ collect (pbF f g k) j).length ≤ 1000000 + 1000 := by
        have := collect_len (f := pbF f g k) (k := j)
        rw [List.length_append]
        omega
      by_cases e1 : nth f k = nth g j
      · have e : pbF f g k j = some ((k : Int), (j : Int)) := by simp [pbF, e1]
        simp [f1, f10, f11, f12, f6, f7, f17, f18, hc', hlt', e1, drop_nth hlt']
        refine kApp_grow (ts := [.int .i64 k, .int .i64 j]) rfl (ho.keep fun g => by simp) (by omega) rfl (by omega) (by omega) fun E hE hob hcnt => ?_
        simp [f1, f10, f11, f12, f6, f7, f17, f18, hc', hw', collect_some e, e1]
        simpa [prL, prC, Nat.add_assoc] using hE
      · have e : pbF f g k j = none := by simp [pbF, e1]
        simp [f1, f10, f11, f12, f6, f7, f17, f18, hc', hlt', e1, drop_nth hlt', hw', collect_none e]
        simpa using ho
    · rintro S' hc' ⟨f1, f10, f11, f12, f6, f7, f17, f18, ho⟩
      simp [f1, f10, f11, f12, f6, f7, f17, f18, hc', hw, gather_succ]
      simpa using ho
  · rintro S hc ⟨f1, f10, f11, ho⟩
    obtain ⟨u, hu⟩ := ho.one
    rw [hu] at ho
    simp [f1, f10, f11, hc, hu]
    simpa [pbP] using ho.rowIs
end Go.Proofs.YthcnpnogfblkcaaGreat
