/-
  The small code's rules with their continuations as words, so that a proof steps through them one by one. No condition beyond those that each statement names.
-/
import Derived.Test.YthapbbpdcjmmfaaAbsH
namespace Go.Proofs.Ythapbbpdcjmmfaa.Abs
open Go.RowKit
set_option linter.unusedVariables false
set_option linter.unusedSimpArgs false

/-- A weakest precondition over the program, its open regions too. -/
def W (P : Program) (c : MCode) (Q : X → St → Prop) (S : St) : Prop := awp P (DR P) c Q S
def kSeq (P : Program) (b : MCode) (Q : X → St → Prop) : X → St → Prop := fun x S => match x with
  | .normal => W P b Q S
  | x => Q x S
def kBlk (id : Nat) (Q : X → St → Prop) : X → St → Prop := fun x S => match x with
  | .exit i => if i = id then Q .normal S else Q (.exit i) S
  | x => Q x S
def kCond (P : Program) (v : AV) (a b : MCode) (Q : X → St → Prop) (S : St) : Prop := ∃ t, v = .one (.t (.bool t)) ∧ (t = true → W P a Q S) ∧ (t = false → W P b Q S)
def loopW (P : Program) (b : MCode) (Q : X → St → Prop) (S : St) : Prop := loopP (awp P (DR P) b) Q S
def kOps (P : Program) (d : Option Nat) (r : List MOper) (S : St) (Q : St → Prop) : Eff → Prop := fun E => awpOps P r (S.set d E.v E.ob E.cnt) Q
def kRes (P : Program) (d : Option Nat) (r : List MOper) (S : St) (Q : St → Prop) : AV → (Nm → Option Ob) → (Nat → Nat) → Prop := fun v ob cnt => awpOps P r (S.set d v ob cnt) Q
def kGuard (P : Program) (v : AV) (b : Bool) (d : Option Nat) (op : MOp) (r : List MOper) (S : St) (Q : St → Prop) : Prop :=
  ∃ b', gval v = some b' ∧ (b' = some b → awpOps P (⟨d, op, none⟩ :: r) S Q) ∧ (b' ≠ some b → awpOps P r (S.set d .undef S.ob S.cnt) Q)
def kCall (P : Program) (f : AV) (args : List AV) (ob : Nm → Option Ob) (cnt : Nat → Nat) (K : AV → (Nm → Option Ob) → (Nat → Nat) → Prop) : Prop :=
  ∃ g caps, f = .one (.fn g caps) ∧ CallS P g (args ++ caps.map (fun n => .one (.ptr n 0))) ob cnt K
def kNil (neg : Bool) (x : AV) (S : St) (K : AV → (Nm → Option Ob) → (Nat → Nat) → Prop) : Prop := match x with
  | .one .nil => ∀ b : Bool, K (.one (.t (.bool b))) S.ob S.cnt
  | .one (.row _) => K (.one (.t (.bool neg))) S.ob S.cnt
  | .one (.t (.sl n cs)) => ∀ b : Bool, (b = true → cs = []) → K (.one (.t (.bool (if neg then !b else b)))) S.ob S.cnt
  | _ => False

section
variable {P : Program} {Q : X → St → Prop} {S : St}
theorem w_skip : W P .skip Q S = Q .normal S := Eq.trans rfl rfl
theorem w_region {ops : List MOper} : W P (.region ops) Q S = awpOps P ops S (Q .normal) := Eq.trans rfl rfl
theorem w_seq {a b : MCode} : W P (.seq a b) Q S = W P a (kSeq P b Q) S := Eq.trans rfl rfl
theorem w_cond {c : Arg} {a b : MCode} : W P (.cond c a b) Q S = kCond P (c.ev S) a b Q S := Eq.trans rfl rfl
theorem w_block {id : Nat} {b : MCode} : W P (.block id b) Q S = W P b (kBlk id Q) S := Eq.trans rfl rfl
theorem w_loop {b : MCode} : W P (.loop b) Q S = loopW P b Q S := Eq.trans rfl rfl
theorem w_exit {id : Nat} : W P (.exit id) Q S = Q (.exit id) S := Eq.trans rfl rfl
theorem w_ret : W P .ret Q S = Q .ret S := Eq.trans rfl rfl
theorem kSeq_n {b : MCode} : kSeq P b Q .normal S = W P b Q S := Eq.trans rfl rfl
theorem kSeq_e {b : MCode} {i : Nat} : kSeq P b Q (.exit i) S = Q (.exit i) S := Eq.trans rfl rfl
theorem kSeq_r {b : MCode} : kSeq P b Q .ret S = Q .ret S := Eq.trans rfl rfl
theorem kBlk_n {id : Nat} : kBlk id Q .normal S = Q .normal S := Eq.trans rfl rfl
theorem kBlk_e {id i : Nat} : kBlk id Q (.exit i) S = if i = id then Q .normal S else Q (.exit i) S := Eq.trans rfl rfl
theorem kBlk_r {id : Nat} : kBlk id Q .ret S = Q .ret S := Eq.trans rfl rfl
theorem kCond_t {a b : MCode} : kCond P (.one (.t (.bool true))) a b Q S = W P a Q S := by simp [kCond]
theorem kCond_f {a b : MCode} : kCond P (.one (.t (.bool false))) a b Q S = W P b Q S := by simp [kCond]
theorem kCond_d {p : Prop} [Decidable p] {a b : MCode} : kCond P (.one (.t (.bool (decide p)))) a b Q S = ((p → W P a Q S) ∧ (¬p → W P b Q S)) := by simp [kCond]
theorem kCond_g {t : Bool} {a b : MCode} : kCond P (.one (.t (.bool t))) a b Q S = ((t = true → W P a Q S) ∧ (t = false → W P b Q S)) := by simp [kCond]
theorem kCond_n {p : Prop} [Decidable p] {a b : MCode} : kCond P (.one (.t (.bool (!decide p)))) a b Q S = ((¬p → W P a Q S) ∧ (p → W P b Q S)) := by by_cases h : p <;> simp [kCond, h]
end

section
variable {P : Program} {Q : St → Prop} {S : St} {d : Option Nat} {r : List MOper}
theorem o_nil : awpOps P [] S Q = Q S := Eq.trans rfl rfl
theorem o_mv {x : Arg} : awpOps P (⟨d, .mv x, none⟩ :: r) S Q = awpOps P r (S.set d (x.ev S) S.ob S.cnt) Q := by simp [awpOps, awpOp, evOp, thereIs, St.val]
theorem o_pick {c a b : Arg} : awpOps P (⟨d, .pick c a b, none⟩ :: r) S Q = thereIs (evOp S (.pick c a b)) (kOps P d r S Q) := Eq.trans rfl rfl
theorem o_alloc {nm t : Nat} {z : List V1} : awpOps P (⟨d, .alloc nm t z, none⟩ :: r) S Q = thereIs (evOp S (.alloc nm t z)) (kOps P d r S Q) := Eq.trans rfl rfl
theorem o_box {nm t : Nat} {x : Arg} : awpOps P (⟨d, .box nm t x, none⟩ :: r) S Q = thereIs (evOp S (.box nm t x)) (kOps P d r S Q) := Eq.trans rfl rfl
theorem o_build {z : List V1} {p : List (Nat × Nat × Arg)} : awpOps P (⟨d, .build z p, none⟩ :: r) S Q = thereIs (evOp S (.build z p)) (kOps P d r S Q) := Eq.trans rfl rfl
theorem o_mkrow {nm t e l : Nat} {z : List V1} {p : List (Nat × Nat × Arg)} : awpOps P (⟨d, .mkrow nm t e l z p, none⟩ :: r) S Q = thereIs (evOp S (.mkrow nm t e l z p)) (kOps P d r S Q) := Eq.trans rfl rfl
theorem o_load {g : Bool} {s : Nat} {a : Arg} : awpOps P (⟨d, .load g s a, none⟩ :: r) S Q = thereIs (evOp S (.load g s a)) (kOps P d r S Q) := Eq.trans rfl rfl
theorem o_store {s : Nat} {a x : Arg} : awpOps P (⟨d, .store s a x, none⟩ :: r) S Q = thereIs (evOp S (.store s a x)) (kOps P d r S Q) := Eq.trans rfl rfl
theorem o_nilck {x : Arg} : awpOps P (⟨d, .nilck x, none⟩ :: r) S Q = thereIs (evOp S (.nilck x)) (kOps P d r S Q) := Eq.trans rfl rfl
theorem o_bin {o : BinOp} {x y : Arg} : awpOps P (⟨d, .bin o x y, none⟩ :: r) S Q = thereIs (evOp S (.bin o x y)) (kOps P d r S Q) := Eq.trans rfl rfl
theorem o_eqS {g : Bool} {n : Nat} {x y : Arg} : awpOps P (⟨d, .eqS g n x y, none⟩ :: r) S Q = thereIs (evOp S (.eqS g n x y)) (kOps P d r S Q) := Eq.trans rfl rfl
theorem o_not {x : Arg} : awpOps P (⟨d, .not x, none⟩ :: r) S Q = thereIs (evOp S (.not x)) (kOps P d r S Q) := Eq.trans rfl rfl
theorem o_conv {k : IntKind} {x : Arg} : awpOps P (⟨d, .conv k x, none⟩ :: r) S Q = thereIs (evOp S (.conv k x)) (kOps P d r S Q) := Eq.trans rfl rfl
theorem o_mkfn {f : FuncId} {c : List Arg} : awpOps P (⟨d, .mkfn f c, none⟩ :: r) S Q = thereIs (evOp S (.mkfn f c)) (kOps P d r S Q) := Eq.trans rfl rfl
theorem o_make {nm t e b : Nat} {z : List V1} {l c : Arg} : awpOps P (⟨d, .make nm t e b z l c, none⟩ :: r) S Q = thereIs (evOp S (.make nm t e b z l c)) (kOps P d r S Q) := Eq.trans rfl rfl
theorem o_fieldA {o : Nat} {x : Arg} : awpOps P (⟨d, .fieldA o x, none⟩ :: r) S Q = thereIs (evOp S (.fieldA o x)) (kOps P d r S Q) := Eq.trans rfl rfl
theorem o_idxA {e : Nat} {x i : Arg} : awpOps P (⟨d, .idxA e x i, none⟩ :: r) S Q = thereIs (evOp S (.idxA e x i)) (kOps P d r S Q) := Eq.trans rfl rfl
theorem o_idxArr {l e : Nat} {x i : Arg} : awpOps P (⟨d, .idxArr l e x i, none⟩ :: r) S Q = thereIs (evOp S (.idxArr l e x i)) (kOps P d r S Q) := Eq.trans rfl rfl
theorem o_extract {x : Arg} {i : Nat} : awpOps P (⟨d, .extract x i, none⟩ :: r) S Q = thereIs (evOp S (.extract x i)) (kOps P d r S Q) := Eq.trans rfl rfl
theorem o_len {x : Arg} : awpOps P (⟨d, .len x, none⟩ :: r) S Q = thereIs (evOp S (.len x)) (kOps P d r S Q) := Eq.trans rfl rfl
theorem o_append {nm t e b : Nat} {x y : Arg} : awpOps P (⟨d, .append nm t e b x y, none⟩ :: r) S Q = thereIs (evOp S (.append nm t e b x y)) (kOps P d r S Q) := Eq.trans rfl rfl
theorem o_minmax {g : Bool} {x y : Arg} : awpOps P (⟨d, .minmax g x y, none⟩ :: r) S Q = thereIs (evOp S (.minmax g x y)) (kOps P d r S Q) := Eq.trans rfl rfl
theorem o_isnil {g : Bool} {x : Arg} : awpOps P (⟨d, .isnil g x, none⟩ :: r) S Q = kNil g (x.ev S) S (kRes P d r S Q) := Eq.trans rfl rfl
theorem o_call {f : Arg} {nm : Nat} {args : List Arg} : awpOps P (⟨d, .call f nm args, none⟩ :: r) S Q = kCall P (f.ev S) (args.map (Arg.ev S)) S.ob S.cnt (kRes P d r S Q) := Eq.trans rfl rfl
theorem o_guard {op : MOp} {t : Nat} {b : Bool} : awpOps P (⟨d, op, some (t, b)⟩ :: r) S Q = kGuard P (S.fr t) b d op r S Q := Eq.trans rfl rfl
theorem kOps_app {E : Eff} : kOps P d r S Q E = awpOps P r (S.set d E.v E.ob E.cnt) Q := Eq.trans rfl rfl
theorem kRes_app {v : AV} {ob : Nm → Option Ob} {cnt : Nat → Nat} : kRes P d r S Q v ob cnt = awpOps P r (S.set d v ob cnt) Q := Eq.trans rfl rfl
theorem kGuard_tt {op : MOp} : kGuard P (.one (.t (.bool true))) true d op r S Q = awpOps P (⟨d, op, none⟩ :: r) S Q := by simp [kGuard, gval]
theorem kGuard_ff {op : MOp} : kGuard P (.one (.t (.bool false))) false d op r S Q = awpOps P (⟨d, op, none⟩ :: r) S Q := by simp [kGuard, gval]
theorem kGuard_tf {op : MOp} : kGuard P (.one (.t (.bool true))) false d op r S Q = awpOps P r (S.set d .undef S.ob S.cnt) Q := by simp [kGuard, gval]
theorem kGuard_ft {op : MOp} : kGuard P (.one (.t (.bool false))) true d op r S Q = awpOps P r (S.set d .undef S.ob S.cnt) Q := by simp [kGuard, gval]
theorem kGuard_u {op : MOp} {b : Bool} : kGuard P .undef b d op r S Q = awpOps P r (S.set d .undef S.ob S.cnt) Q := by simp [kGuard, gval]
theorem kCall_c {g : FuncId} {args : List AV} {ob : Nm → Option Ob} {cnt : Nat → Nat} {K : AV → (Nm → Option Ob) → (Nat → Nat) → Prop} : kCall P (.one (.fn g [])) args ob cnt K = CallS P g args ob cnt K := by
  refine propext ⟨?_, fun h => ⟨g, [], rfl, by simpa using h⟩⟩
  rintro ⟨g', caps, e, h⟩
  cases e
  simpa using h
theorem kCall_k {g : FuncId} {caps : List Nm} {args : List AV} {ob : Nm → Option Ob} {cnt : Nat → Nat} {K : AV → (Nm → Option Ob) → (Nat → Nat) → Prop} : kCall P (.one (.fn g caps)) args ob cnt K = CallS P g (args ++ caps.map (fun n => .one (.ptr n 0))) ob cnt K := by
  refine propext ⟨?_, fun h => ⟨g, caps, rfl, h⟩⟩
  rintro ⟨g', caps', e, h⟩
  cases e
  exact h
theorem kNil_r {g : Bool} {o : Nm} {K : AV → (Nm → Option Ob) → (Nat → Nat) → Prop} : kNil g (.one (.row o)) S K = K (.one (.t (.bool g))) S.ob S.cnt := Eq.trans rfl rfl
end

/-! ### Open regions -/
def chk (deps : List (List Nat)) (L : Log) : Bool := lowerAll 0 deps && indep (closAll [] deps) L
def dOps (P : Program) (d : Option Nat) (r : List MOper) (S : St) (L : Log) (R Wr : List SL) (Q : St → Log → Prop) : Eff → Prop := fun E => drawOps P r (S.set d E.v E.ob E.cnt) (L ++ [(R, dstL d ++ Wr)]) Q
def dDone (deps : List (List Nat)) (Q : X → St → Prop) : St → Log → Prop := fun S L => chk deps L = true ∧ Q .normal S
def dGuard (P : Program) (v : AV) (t : Nat) (b : Bool) (d : Option Nat) (op : MOp) (r : List MOper) (S : St) (L : Log) (Q : St → Log → Prop) : Prop :=
  ∃ b', gval v = some b' ∧ (b' = some b → dAwpOp P S op (dOps P d r S L ((0, t) :: opRd S op) (opWr S op) Q)) ∧ (b' ≠ some b → drawOps P r (S.set d .undef S.ob S.cnt) (L ++ [([(0, t)], dstL d)]) Q)
/-- A call in an open region. -/
def dCall (P : Program) (f : AV) (nm : Nat) (args : List AV) (S : St) (K : Eff → Prop) : Prop := ∃ g targs, f = .one (.fn g []) ∧ argTrees ⟨fun _ => .undef, S.ob, S.cnt⟩ args = some targs ∧
  ((∃ r, CallOK P g targs r ∧ (r.plain || args.all (AV.still ⟨fun _ => .undef, S.ob, S.cnt⟩)) = true ∧ K (S.val r.av)) ∨ ∃ typ esz n cs, CallRow P g targs typ esz n cs ∧ K (rowEff S nm typ esz n cs))

section
variable {P : Program} {S : St}
theorem w_draw {deps : List (List Nat)} {ops : List MOper} {Q : X → St → Prop} : W P (.draw deps ops) Q S = drawOps P ops S [] (dDone deps Q) := Eq.trans rfl rfl
theorem dDone_app {deps : List (List Nat)} {Q : X → St → Prop} {L : Log} : dDone deps Q S L = (chk deps L = true ∧ Q .normal S) := Eq.trans rfl rfl
variable {Q : St → Log → Prop} {L : Log} {d : Option Nat} {r : List MOper}
theorem d_nil : drawOps P [] S L Q = Q S L := Eq.trans rfl rfl
theorem d_cons {op : MOp} : drawOps P (⟨d, op, none⟩ :: r) S L Q = dAwpOp P S op (dOps P d r S L (opRd S op) (opWr S op) Q) := Eq.trans rfl rfl
theorem d_guard {op : MOp} {t : Nat} {b : Bool} : drawOps P (⟨d, op, some (t, b)⟩ :: r) S L Q = dGuard P (S.fr t) t b d op r S L Q := Eq.trans rfl rfl
theorem dGuard_tt {op : MOp} {t : Nat} : dGuard P (.one (.t (.bool true))) t true d op r S L Q = dAwpOp P S op (dOps P d r S L ((0, t) :: opRd S op) (opWr S op) Q) := by simp [dGuard, gval]
theorem dGuard_ff {op : MOp} {t : Nat} : dGuard P (.one (.t (.bool false))) t false d op r S L Q = dAwpOp P S op (dOps P d r S L ((0, t) :: opRd S op) (opWr S op) Q) := by simp [dGuard, gval]
theorem dGuard_tf {op : MOp} {t : Nat} : dGuard P (.one (.t (.bool true))) t false d op r S L Q = drawOps P r (S.set d .undef S.ob S.cnt) (L ++ [([(0, t)], dstL d)]) Q := by simp [dGuard, gval]
theorem dGuard_ft {op : MOp} {t : Nat} : dGuard P (.one (.t (.bool false))) t true d op r S L Q = drawOps P r (S.set d .undef S.ob S.cnt) (L ++ [([(0, t)], dstL d)]) Q := by simp [dGuard, gval]
theorem dGuard_u {op : MOp} {t : Nat} {b : Bool} : dGuard P .undef t b d op r S L Q = drawOps P r (S.set d .undef S.ob S.cnt) (L ++ [([(0, t)], dstL d)]) Q := by simp [dGuard, gval]
theorem dOps_app {R Wr : List SL} {E : Eff} : dOps P d r S L R Wr Q E = drawOps P r (S.set d E.v E.ob E.cnt) (L ++ [(R, dstL d ++ Wr)]) Q := Eq.trans rfl rfl
variable {K : Eff → Prop}
theorem d_mv {x : Arg} : dAwpOp P S (.mv x) K = thereIs (evOp S (.mv x)) K := Eq.trans rfl rfl
theorem d_pick {c a b : Arg} : dAwpOp P S (.pick c a b) K = thereIs (evOp S (.pick c a b)) K := Eq.trans rfl rfl
theorem d_alloc {nm t : Nat} {z : List V1} : dAwpOp P S (.alloc nm t z) K = thereIs (evOp S (.alloc nm t z)) K := Eq.trans rfl rfl
theorem d_box {nm t : Nat} {x : Arg} : dAwpOp P S (.box nm t x) K = thereIs (evOp S (.box nm t x)) K := Eq.trans rfl rfl
theorem d_build {z : List V1} {p : List (Nat × Nat × Arg)} : dAwpOp P S (.build z p) K = thereIs (evOp S (.build z p)) K := Eq.trans rfl rfl
theorem d_mkrow {nm t e l : Nat} {z : List V1} {p : List (Nat × Nat × Arg)} : dAwpOp P S (.mkrow nm t e l z p) K = thereIs (evOp S (.mkrow nm t e l z p)) K := Eq.trans rfl rfl
theorem d_load {g : Bool} {s : Nat} {a : Arg} : dAwpOp P S (.load g s a) K = thereIs (evOp S (.load g s a)) K := Eq.trans rfl rfl
theorem d_store {s : Nat} {a x : Arg} : dAwpOp P S (.store s a x) K = thereIs (evOp S (.store s a x)) K := Eq.trans rfl rfl
theorem d_bin {o : BinOp} {x y : Arg} : dAwpOp P S (.bin o x y) K = thereIs (evOp S (.bin o x y)) K := Eq.trans rfl rfl
theorem d_eqS {g : Bool} {n : Nat} {x y : Arg} : dAwpOp P S (.eqS g n x y) K = thereIs (evOp S (.eqS g n x y)) K := Eq.trans rfl rfl
theorem d_not {x : Arg} : dAwpOp P S (.not x) K = thereIs (evOp S (.not x)) K := Eq.trans rfl rfl
theorem d_conv {k : IntKind} {x : Arg} : dAwpOp P S (.conv k x) K = thereIs (evOp S (.conv k x)) K := Eq.trans rfl rfl
theorem d_make {nm t e b : Nat} {z : List V1} {l c : Arg} : dAwpOp P S (.make nm t e b z l c) K = thereIs (evOp S (.make nm t e b z l c)) K := Eq.trans rfl rfl
theorem d_fieldA {o : Nat} {x : Arg} : dAwpOp P S (.fieldA o x) K = thereIs (evOp S (.fieldA o x)) K := Eq.trans rfl rfl
theorem d_idxA {e : Nat} {x i : Arg} : dAwpOp P S (.idxA e x i) K = thereIs (evOp S (.idxA e x i)) K := Eq.trans rfl rfl
theorem d_idxArr {l e : Nat} {x i : Arg} : dAwpOp P S (.idxArr l e x i) K = thereIs (evOp S (.idxArr l e x i)) K := Eq.trans rfl rfl
theorem d_extract {x : Arg} {i : Nat} : dAwpOp P S (.extract x i) K = thereIs (evOp S (.extract x i)) K := Eq.trans rfl rfl
theorem d_len {x : Arg} : dAwpOp P S (.len x) K = thereIs (evOp S (.len x)) K := Eq.trans rfl rfl
theorem d_append {nm t e b : Nat} {x y : Arg} : dAwpOp P S (.append nm t e b x y) K = thereIs (evOp S (.append nm t e b x y)) K := Eq.trans rfl rfl
theorem d_minmax {g : Bool} {x y : Arg} : dAwpOp P S (.minmax g x y) K = thereIs (evOp S (.minmax g x y)) K := Eq.trans rfl rfl
theorem d_call {f : Arg} {nm : Nat} {args : List Arg} : dAwpOp P S (.call f nm args) K = dCall P (f.ev S) nm (args.map (Arg.ev S)) S K := Eq.trans rfl rfl

theorem dCall_ok {g : FuncId} {nm : Nat} {args : List AV} {targs : List TV} {r : TR} (h : CallOK P g targs r) (ht : argTrees ⟨fun _ => .undef, S.ob, S.cnt⟩ args = some targs) (hs : (r.plain || args.all (AV.still ⟨fun _ => .undef, S.ob, S.cnt⟩)) = true) (hk : K (S.val r.av)) :
    dCall P (.one (.fn g [])) nm args S K := ⟨g, targs, rfl, ht, .inl ⟨r, h, hs, hk⟩⟩
theorem dCall_row {g : FuncId} {nm : Nat} {args : List AV} {targs : List TV} {typ esz n : Nat} {cs : List C} (h : CallRow P g targs typ esz n cs) (ht : argTrees ⟨fun _ => .undef, S.ob, S.cnt⟩ args = some targs) (hk : K (rowEff S nm typ esz n cs)) :
    dCall P (.one (.fn g [])) nm args S K := ⟨g, targs, rfl, ht, .inr ⟨typ, esz, n, cs, h, hk⟩⟩
end

theorem upd_app {α β : Type} [DecidableEq α] (f : α → β) (a x : α) (b : β) : upd f a b x = if x = a then b else f x := Eq.trans rfl rfl

/-- A function's end: what comes back. -/
def kRet (rs : List MRes) (K : AV → (Nm → Option Ob) → (Nat → Nat) → Prop) : X → St → Prop := fun x S => match x with
  | .exit _ => False
  | _ => ∃ r, retOf S rs = some r ∧ K r S.ob S.cnt

section
variable {P : Program} {S : St} {rs : List MRes} {K : AV → (Nm → Option Ob) → (Nat → Nat) → Prop}
def kBack (x : Option AV) (S : St) (K : AV → (Nm → Option Ob) → (Nat → Nat) → Prop) : Prop := ∃ r, x = some r ∧ K r S.ob S.cnt
theorem kBack_some {r : AV} : kBack (some r) S K = K r S.ob S.cnt := by simp [kBack]
theorem kRet_r : kRet rs K .ret S = kBack (retOf S rs) S K := Eq.trans rfl rfl
theorem kRet_n : kRet rs K .normal S = kBack (retOf S rs) S K := Eq.trans rfl rfl

theorem callS_W (hm : P.follows .mixedOrders = true) {f : FuncId} {fn : Func} {mf : MFunc} {args : List AV} {ob : Nm → Option Ob} {cnt : Nat → Nat} (hfn : P.funcs[f]? = some fn) (hc : cFn P fn = some mf) (hcb : callable P f = true) (hn : args.length ≤ mf.n)
    (h : W P mf.body (kRet mf.res K) ⟨frameOf args, ob, cnt⟩) : CallS P f args ob cnt K := by
  refine callS_of (dr_sound hm) hfn hc hcb hn (awp_mono h fun x S hx => ?_)
  cases x with
  | exit i => exact hx
  | normal => exact hx
  | ret => exact hx
end

def isTree (r : TR) : AV → (Nm → Option Ob) → (Nat → Nat) → Prop := fun x ob cnt => treeOf ⟨fun _ => .undef, ob, cnt⟩ x = some r
theorem isTree_app {r : TR} {x : AV} {ob : Nm → Option Ob} {cnt : Nat → Nat} : isTree r x ob cnt = (treeOf ⟨fun _ => .undef, ob, cnt⟩ x = some r) := Eq.trans rfl rfl
theorem callOK_W {P : Program} {f : FuncId} {args : List TV} {r : TR} (h : CallS P f (args.map TV.av) noOb noCnt (isTree r)) : CallOK P f args r := callOK_of_S h
theorem beqI {a b : Int} : (a == b) = decide (a = b) := by by_cases h : a = b <;> simp [h]
theorem bneI {a b : Int} : (a != b) = !decide (a = b) := by by_cases h : a = b <;> simp [h]
theorem natNeg {x : Nat} : ((x : Int) < 0) = False := by simp
theorem noOb_app (o : Nm) : noOb o = none := Eq.trans rfl rfl
theorem noCnt_app (n : Nat) : noCnt n = 0 := Eq.trans rfl rfl

def kLoop (c k : Nat) (J : Nat → St → Prop) (Q : X → St → Prop) : X → St → Prop := fun x S => match x with
  | .normal => S.fr c = .one (.t (.int .i64 (k : Int))) ∧ J k S
  | x => Q x S
def kDone (Q : X → St → Prop) : X → St → Prop := fun x S => match x with
  | .normal => False
  | x => Q x S
theorem kLoop_n {c k : Nat} {J : Nat → St → Prop} {Q : X → St → Prop} {S : St} : kLoop c k J Q .normal S = (S.fr c = .one (.t (.int .i64 (k : Int))) ∧ J k S) := Eq.trans rfl rfl
theorem kLoop_e {c k i : Nat} {J : Nat → St → Prop} {Q : X → St → Prop} {S : St} : kLoop c k J Q (.exit i) S = Q (.exit i) S := Eq.trans rfl rfl
theorem kLoop_r {c k : Nat} {J : Nat → St → Prop} {Q : X → St → Prop} {S : St} : kLoop c k J Q .ret S = Q .ret S := Eq.trans rfl rfl
theorem kDone_e {i : Nat} {Q : X → St → Prop} {S : St} : kDone Q (.exit i) S = Q (.exit i) S := Eq.trans rfl rfl
theorem kDone_r {Q : X → St → Prop} {S : St} : kDone Q .ret S = Q .ret S := Eq.trans rfl rfl
theorem kDone_n {Q : X → St → Prop} {S : St} : kDone Q .normal S = False := Eq.trans rfl rfl

/-- A loop that counts up to n in a variable. -/
theorem loopW_count {P : Program} {b : MCode} {Q : X → St → Prop} {S : St} (c n : Nat) (J : Nat → St → Prop) (hn : n ≤ 9000000000000000000)
    (h0 : S.fr c = .one (.t (.int .i64 0)) ∧ J 0 S)
    (h1 : ∀ (k : Nat) (S : St), k < n → IntKind.i64.wrap ((k : Int) + 1) = ((k + 1 : Nat) : Int) → S.fr c = .one (.t (.int .i64 k)) → J k S → W P b (kLoop c (k + 1) J Q) S)
    (h2 : ∀ (S : St), S.fr c = .one (.t (.int .i64 n)) → J n S → W P b (kDone Q) S) : loopW P b Q S :=
  loop_count c n J hn h0 (fun k S a b c d => awp_mono (h1 k S a b c d) fun x S hx => by
    cases x with
    | normal => exact hx
    | exit i => exact hx
    | ret => exact hx) (fun S a b => awp_mono (h2 S a b) fun x S hx => by
    cases x with
    | normal => exact hx
    | exit i => exact hx
    | ret => exact hx)

def kInv (I : St → Prop) (μ : St → Nat) (n : Nat) (Q : X → St → Prop) : X → St → Prop := fun x S => match x with
  | .normal => I S ∧ μ S < n
  | x => Q x S
theorem kInv_n {I : St → Prop} {μ : St → Nat} {n : Nat} {Q : X → St → Prop} {S : St} : kInv I μ n Q .normal S = (I S ∧ μ S < n) := Eq.trans rfl rfl
theorem kInv_e {I : St → Prop} {μ : St → Nat} {n i : Nat} {Q : X → St → Prop} {S : St} : kInv I μ n Q (.exit i) S = Q (.exit i) S := Eq.trans rfl rfl
theorem kInv_r {I : St → Prop} {μ : St → Nat} {n : Nat} {Q : X → St → Prop} {S : St} : kInv I μ n Q .ret S = Q .ret S := Eq.trans rfl rfl
theorem loopW_intro {P : Program} {b : MCode} {Q : X → St → Prop} {S : St} (I : St → Prop) (μ : St → Nat) (h0 : I S) (h : ∀ S, I S → W P b (kInv I μ (μ S) Q) S) : loopW P b Q S :=
  loop_intro I μ h0 fun S hS => awp_mono (h S hS) fun x S hx => by
    cases x with
    | normal => exact hx
    | exit i => exact hx
    | ret => exact hx

/-- The first of f 0, .. f (n - 1) that is not 0. -/
def fe (f : Nat → Int) : Nat → Int
  | 0 => 0
  | n + 1 => if fe f n = 0 then f n else fe f n
theorem fe_zero {f : Nat → Int} : ∀ {n : Nat}, (∀ j, j < n → f j = 0) → fe f n = 0
  | 0, _ => rfl
  | n + 1, h => by
    have ih := fe_zero (n := n) fun j hj => h j (by omega)
    simp [fe, ih, h n (by omega)]
theorem fe_at {f : Nat → Int} {k : Nat} : ∀ {n : Nat}, k < n → (∀ j, j < k → f j = 0) → f k ≠ 0 → fe f n = f k
  | 0, h, _, _ => absurd h (by omega)
  | n + 1, h, h0, h1 => by
    by_cases e : k = n
    · subst e
      simp [fe, fe_zero h0]
    · have ih := fe_at (n := n) (by omega) h0 h1
      simp [fe, ih, h1]
theorem fe_eq {f : Nat → Int} : ∀ {n : Nat}, fe f n = 0 → ∀ j, j < n → f j = 0
  | 0, _, j, hj => absurd hj (by omega)
  | n + 1, h, j, hj => by
    by_cases e : fe f n = 0
    · simp [fe, e] at h
      by_cases e' : j = n
      · rw [e']; exact h
      · exact fe_eq e j (by omega)
    · simp [fe, e] at h
end Go.Proofs.Ythapbbpdcjmmfaa.Abs
