/-
  Rows that grow; lists that loops collect; loops that count from a number on. No condition beyond those that each statement names.
-/
import Derived.Test.YthapbbpdcjmmfaaAbsI
namespace Go.Proofs.Ythapbbpdcjmmfaa.Abs
open Go.RowKit
set_option linter.unusedVariables false
set_option linter.unusedSimpArgs false
set_option linter.defProp false

/-! ### Appending -/
def evApp (S : St) (nm typ esz bytes : Nat) (x : AV) (y : Option (Nat × List V1)) : Option Eff := match y with
  | some (k, news) => match trees news with
    | some ts => match x with
      | .one .nil => if k * bytes ≤ 140737488355328 ∧ ts.length = k * esz ∧ k ≤ 9223372036854775807 then
          (if k = 0 then some (S.val (.one .nil)) else some (S.new nm ⟨true, true, false, esz, k, typ, ts⟩ (.one (.row (nm, S.cnt nm)))))
        else none
      | .one (.row o) => match S.live o with
        | some b => if b.isRow = true ∧ b.frz = false ∧ b.esz = esz ∧ b.typ = typ ∧ (b.n + k) * bytes ≤ 140737488355328 ∧ ts.length = k * esz ∧ b.n + k ≤ 9223372036854775807 then
            some ⟨.one (.row (nm, S.cnt nm)), upd (upd S.ob o (some { b with live := false })) (nm, S.cnt nm) (some ⟨true, true, false, esz, b.n + k, typ, b.cells ++ ts⟩), upd S.cnt nm (S.cnt nm + 1)⟩
          else none
        | none => none
      | _ => none
    | none => none
  | none => none

theorem evApp_eq {S : St} {nm t e b : Nat} {x y : Arg} : evOp S (.append nm t e b x y) = evApp S nm t e b (x.ev S) (sliceOf S (y.ev S)) := Eq.trans rfl rfl

def kApp (nm typ esz bytes : Nat) (x : AV) (y : Option (Nat × List V1)) (S : St) (K : Eff → Prop) : Prop := thereIs (evApp S nm typ esz bytes x y) K
theorem o_app {P : Program} {Q : St → Prop} {S : St} {d : Option Nat} {r : List MOper} {nm t e b : Nat} {x y : Arg} :
    awpOps P (⟨d, .append nm t e b x y, none⟩ :: r) S Q = kApp nm t e b (x.ev S) (sliceOf S (y.ev S)) S (kOps P d r S Q) := by
  rw [o_append, evApp_eq]; exact Eq.trans rfl rfl
theorem d_app {P : Program} {S : St} {K : Eff → Prop} {nm t e b : Nat} {x y : Arg} : dAwpOp P S (.append nm t e b x y) K = kApp nm t e b (x.ev S) (sliceOf S (y.ev S)) S K := by
  rw [d_append, evApp_eq]; exact Eq.trans rfl rfl

/-- A list that appends have built: nil, or a row of its own. -/
def outR (nm typ esz n : Nat) (cs : List C) (ob : Nm → Option Ob) (v : AV) : Prop :=
  (n = 0 ∧ cs = [] ∧ v = .one .nil) ∨ (0 < n ∧ ∃ g, v = .one (.row (nm, g)) ∧ ob (nm, g) = some ⟨true, true, false, esz, n, typ, cs.map .t⟩)

theorem outR_nil {nm typ esz : Nat} {ob : Nm → Option Ob} : outR nm typ esz 0 [] ob (.one .nil) := .inl ⟨rfl, rfl, rfl⟩

theorem outR.rowIs {nm typ esz n : Nat} {cs : List C} {ob : Nm → Option Ob} {v : AV} (h : outR nm typ esz n cs ob v) : Abs.rowIs typ esz n cs ob v := by
  rcases h with ⟨h1, _, h2⟩ | ⟨h1, g, h2, h3⟩
  · exact .inl ⟨h1, h2⟩
  · exact .inr ⟨h1, _, _, h2, h3, rfl, rfl, rfl, rfl, rfl, rfl⟩

theorem trees_t (ts : List C) : trees (ts.map .t) = some (ts.map .t) := by
  induction ts with
  | nil => rfl
  | cons c r ih => simp [trees, V1.tree, ih]

theorem kApp_grow {nm typ esz bytes n k : Nat} {cs ts : List C} {v : AV} {S : St} {K : Eff → Prop} {news : List V1} (hnews : news = ts.map .t) (h : outR nm typ esz n cs S.ob v) (hk : 0 < k) (hl : ts.length = k * esz) (hb : (n + k) * bytes ≤ 140737488355328) (hn : n + k ≤ 9000000000000000000)
    (hK : ∀ E : Eff, outR nm typ esz (n + k) (cs ++ ts) E.ob E.v → (∀ a g, a ≠ nm → E.ob (a, g) = S.ob (a, g)) → (∀ a, a ≠ nm → E.cnt a = S.cnt a) → K E) : kApp nm typ esz bytes v (some (k, news)) S K := by
  subst hnews
  unfold kApp evApp
  simp only [trees_t, List.length_map]
  rcases h with ⟨rfl, rfl, rfl⟩ | ⟨h1, g, rfl, h3⟩
  · simp only
    rw [if_pos ⟨by simpa using hb, hl, by omega⟩, if_neg (by omega)]
    refine ⟨_, rfl, hK _ (.inr ⟨by omega, S.cnt nm, rfl, ?_⟩) (fun a g ha => ?_) (fun a ha => ?_)⟩
    · simp [St.new, upd_same]
    · simp only [St.new]
      exact upd_ne _ _ (fun e => ha (Prod.mk.inj e).1)
    · simp only [St.new]
      exact upd_ne _ _ ha
  · simp only [St.live, h3, if_true]
    rw [if_pos ⟨trivial, trivial, trivial, trivial, hb, hl, by omega⟩]
    refine ⟨_, rfl, hK _ (.inr ⟨by omega, S.cnt nm, rfl, ?_⟩) (fun a g' ha => ?_) (fun a ha => ?_)⟩
    · simp [upd_same]
    · show upd (upd S.ob (nm, g) _) (nm, S.cnt nm) _ (a, g') = _
      rw [upd_ne _ _ (fun e => ha (Prod.mk.inj e).1), upd_ne _ _ (fun e => ha (Prod.mk.inj e).1)]
    · exact upd_ne _ _ ha

theorem outR.keep {nm typ esz n : Nat} {cs : List C} {ob ob' : Nm → Option Ob} {v : AV} (h : outR nm typ esz n cs ob v) (ho : ∀ g, ob' (nm, g) = ob (nm, g)) : outR nm typ esz n cs ob' v := by
  rcases h with h | ⟨h1, g, h2, h3⟩
  · exact .inl h
  · exact .inr ⟨h1, g, h2, by rw [ho]; exact h3⟩

theorem outR.one {nm typ esz n : Nat} {cs : List C} {ob : Nm → Option Ob} {v : AV} (h : outR nm typ esz n cs ob v) : ∃ u, v = .one u := by
  rcases h with ⟨_, _, h⟩ | ⟨_, g, h, _⟩
  · exact ⟨_, h⟩
  · exact ⟨_, h⟩

/-! ### What loops collect -/
def collect {α : Type} (f : Nat → Option α) (k : Nat) : List α := (List.range k).filterMap f
theorem collect_zero {α : Type} {f : Nat → Option α} : collect f 0 = [] := rfl
theorem collect_some {α : Type} {f : Nat → Option α} {k : Nat} {x : α} (h : f k = some x) : collect f (k + 1) = collect f k ++ [x] := by simp [collect, List.range_succ, h]
theorem collect_none {α : Type} {f : Nat → Option α} {k : Nat} (h : f k = none) : collect f (k + 1) = collect f k := by simp [collect, List.range_succ, h]
theorem collect_len {α : Type} {f : Nat → Option α} {k : Nat} : (collect f k).length ≤ k := by
  have := List.length_filterMap_le f (List.range k)
  simpa [collect] using this
theorem collect_nil {α : Type} {f : Nat → Option α} {k : Nat} (h : ∀ j, j < k → f j = none) : collect f k = [] := by
  induction k with
  | zero => rfl
  | succ k ih => rw [collect_none (h k (by omega)), ih fun j hj => h j (by omega)]
theorem mem_collect {α : Type} {f : Nat → Option α} {k : Nat} {x : α} : x ∈ collect f k ↔ ∃ j, j < k ∧ f j = some x := by simp [collect]

def gather {α : Type} (f : Nat → List α) (k : Nat) : List α := (List.range k).flatMap f
theorem gather_zero {α : Type} {f : Nat → List α} : gather f 0 = [] := rfl
theorem gather_succ {α : Type} {f : Nat → List α} {k : Nat} : gather f (k + 1) = gather f k ++ f k := by simp [gather, List.range_succ]
theorem gather_len {α : Type} {f : Nat → List α} {m : Nat} (h : ∀ j, (f j).length ≤ m) : ∀ k, (gather f k).length ≤ k * m
  | 0 => by simp [gather]
  | k + 1 => by
    rw [gather_succ, List.length_append, Nat.add_mul]
    have := gather_len h k
    have := h k
    omega
theorem mem_gather {α : Type} {f : Nat → List α} {k : Nat} {x : α} : x ∈ gather f k ↔ ∃ j, j < k ∧ x ∈ f j := by simp [gather]

/-- A loop that counts from s up to n in a variable. -/
theorem loopW_from {P : Program} {b : MCode} {Q : X → St → Prop} {S : St} (c s n : Nat) (J : Nat → St → Prop) (hs : s ≤ n) (hn : n ≤ 9000000000000000000)
    (h0 : S.fr c = .one (.t (.int .i64 (s : Int))) ∧ J s S)
    (h1 : ∀ (k : Nat) (S : St), s ≤ k → k < n → IntKind.i64.wrap ((k : Int) + 1) = ((k + 1 : Nat) : Int) → S.fr c = .one (.t (.int .i64 k)) → J k S → W P b (kLoop c (k + 1) J Q) S)
    (h2 : ∀ (S : St), S.fr c = .one (.t (.int .i64 n)) → J n S → W P b (kDone Q) S) : loopW P b Q S := by
  refine loopW_intro (fun S => ∃ k : Nat, s ≤ k ∧ k ≤ n ∧ S.fr c = .one (.t (.int .i64 k)) ∧ J k S) (fun S => match S.fr c with | .one (.t (.int _ k)) => n - k.toNat | _ => 0) ⟨s, by omega, hs, h0.1, h0.2⟩ ?_
  rintro S ⟨k, hsk, hk, hc, hj⟩
  by_cases hlt : k < n
  · refine awp_mono (h1 k S hsk hlt (by rw [wrap64_id] <;> omega) hc hj) fun x S' hx => ?_
    cases x with
    | normal =>
      refine ⟨⟨k + 1, by omega, by omega, hx.1, hx.2⟩, ?_⟩
      have hx := hx.1
      simp only [hx, hc]
      omega
    | exit i => exact hx
    | ret => exact hx
  · have : k = n := by omega
    subst this
    refine awp_mono (h2 S hc hj) fun x S' hx => ?_
    cases x with
    | normal => exact hx.elim
    | exit i => exact hx
    | ret => exact hx

def isRowV (typ esz n : Nat) (cs : List C) : AV → (Nm → Option Ob) → (Nat → Nat) → Prop := fun x ob _ => rowIs typ esz n cs ob x
theorem isRowV_app {typ esz n : Nat} {cs : List C} {x : AV} {ob : Nm → Option Ob} {cnt : Nat → Nat} : isRowV typ esz n cs x ob cnt = rowIs typ esz n cs ob x := rfl
theorem callRow_W {P : Program} {f : FuncId} {args : List TV} {typ esz n : Nat} {cs : List C} (hpl : cs.all C.plain = true) (hl : cs.length = n * esz) (he : 0 < esz) (h : CallS P f (args.map TV.av) noOb noCnt (isRowV typ esz n cs)) : CallRow P f args typ esz n cs := callRow_of_S hpl hl he h

/-- A row of numbers comes back. -/
def RowI (P : Program) (f : FuncId) (args : List TV) (typ : Nat) (l : List Int) : Prop := CallRow P f args typ 1 l.length (l.map (.int .i64))
theorem RowI.ok {P : Program} {f : FuncId} {args : List TV} {typ : Nat} {l : List Int} (h : RowI P f args typ l) : CallOK P f args (.sv (false, [ints l])) := callOK_of_row h
theorem plain_ints (l : List Int) : (l.map (C.int .i64)).all C.plain = true := by simp [C.plain]
theorem plain_prL (l : List (Int × Int)) : (prL l).all C.plain = true := by
  simp only [prL, List.all_eq_true, List.mem_flatMap]
  rintro c ⟨x, _, hc⟩
  simp [prC] at hc
  rcases hc with rfl | rfl <;> rfl
/-! ### The rules in bundles -/
def rn0 := And.intro @w_skip (And.intro @w_region (And.intro @w_seq (And.intro @w_cond (And.intro @w_block (And.intro @w_loop (And.intro @w_exit (And.intro @w_ret (And.intro @kSeq_n (@kSeq_e)))))))))
def rn1 := And.intro @kSeq_r (And.intro @kBlk_n (And.intro @kBlk_e (And.intro @kBlk_r (And.intro @kCond_t (And.intro @kCond_f (And.intro @kCond_d (And.intro @kCond_n (And.intro @o_nil (@o_mv)))))))))
def rn2 := And.intro @o_pick (And.intro @o_alloc (And.intro @o_box (And.intro @o_build (And.intro @o_mkrow (And.intro @o_load (And.intro @o_store (And.intro @o_nilck (And.intro @o_bin (@o_eqS)))))))))
def rn3 := And.intro @o_not (And.intro @o_conv (And.intro @o_mkfn (And.intro @o_make (And.intro @o_fieldA (And.intro @o_idxA (And.intro @o_idxArr (And.intro @o_extract (And.intro @o_len (@o_app)))))))))
def rn4 := And.intro @o_minmax (And.intro @o_isnil (And.intro @o_call (And.intro @o_guard (And.intro @kOps_app (And.intro @kRes_app (And.intro @kGuard_tt (And.intro @kGuard_ff (And.intro @kGuard_tf (@kGuard_ft)))))))))
def rn5 := And.intro @kGuard_u (And.intro @kCall_c (And.intro @kNil_r (And.intro @kRet_r (And.intro @kRet_n (And.intro @kBack_some (And.intro @isTree_app (And.intro @isRowV_app (And.intro @kLoop_n (@kLoop_e)))))))))
def rn6 := And.intro @kLoop_r (And.intro @kDone_e (And.intro @kDone_r (And.intro @kInv_n (And.intro @kInv_e (And.intro @kInv_r (And.intro @thereIs_some (And.intro @thereIs_none (And.intro @upd_app (@noOb_app)))))))))
def rn7 := And.intro @noCnt_app (And.intro @beqI (And.intro @bneI (And.intro @natNeg (And.intro @len_edL (@len_prL)))))
def dw0 := And.intro @w_draw (And.intro @d_nil (And.intro @d_cons (And.intro @d_guard (And.intro @dGuard_tt (And.intro @dGuard_ff (And.intro @dGuard_tf (And.intro @dGuard_ft (And.intro @dGuard_u (@dOps_app)))))))))
def dw1 := And.intro @dDone_app (And.intro @d_mv (And.intro @d_pick (And.intro @d_alloc (And.intro @d_box (And.intro @d_build (And.intro @d_mkrow (And.intro @d_load (And.intro @d_store (@d_bin)))))))))
def dw2 := And.intro @d_eqS (And.intro @d_not (And.intro @d_conv (And.intro @d_make (And.intro @d_fieldA (And.intro @d_idxA (And.intro @d_idxArr (And.intro @d_extract (And.intro @d_len (@d_app)))))))))
def dw3 := And.intro @d_minmax (@d_call)
end Go.Proofs.Ythapbbpdcjmmfaa.Abs
