/-
  Trees of the program's types, how loops that count are shown, small lemmas. No condition beyond those that each statement names.
-/
import Derived.Test.YthapbbpdcjmmfaaAbsG
namespace Go.Proofs.Ythapbbpdcjmmfaa.Abs
open Go.RowKit
set_option linter.unusedVariables false
set_option linter.unusedSimpArgs false

def nth (l : List Int) (k : Nat) : Int := l.getD k 0

structure Ed where
  t : Int
  f : Int
  g : Int
deriving DecidableEq

def eth (l : List Ed) (k : Nat) : Ed := l.getD k ⟨0, 0, 0⟩
def edC (e : Ed) : List C := [.int .i64 e.t, .int .i64 e.f, .int .i64 e.g]
def edL (l : List Ed) : List C := l.flatMap edC
def edgs (l : List Ed) : C := .sl l.length (edL l)
def pth (l : List (Int × Int)) (k : Nat) : Int × Int := l.getD k (0, 0)
def prC (e : Int × Int) : List C := [.int .i64 e.1, .int .i64 e.2]
def prL (l : List (Int × Int)) : List C := l.flatMap prC
def prs (l : List (Int × Int)) : C := .sl l.length (prL l)

/-- A graph. -/
structure Gr where
  nodes : List Int
  edges : List Ed
/-- Two lists of numbers: a part, or a morphism. -/
structure Pa where
  nodes : List Int
  edges : List Int

def Gr.v (g : Gr) : TV := (true, [ints g.nodes, edgs g.edges])
def Pa.v (p : Pa) : TV := (true, [ints p.nodes, ints p.edges])

/-- As an object's cells. -/
def bx (t : TypeId) (cs : List V1) : Ob := ⟨true, false, false, 0, 0, t, cs⟩

theorem nth_eq {l : List Int} {k : Nat} (h : k < l.length) : nth l k = l[k] := by simp [nth, h]
theorem nth_mem {l : List Int} {k : Nat} (h : k < l.length) : nth l k ∈ l := by rw [nth_eq h]; exact List.getElem_mem h
theorem eth_mem {l : List Ed} {k : Nat} (h : k < l.length) : eth l k ∈ l := by simp [eth, h]
theorem mem_nth {l : List Int} {n : Int} (h : n ∈ l) : ∃ k, k < l.length ∧ nth l k = n := by
  obtain ⟨k, hk, rfl⟩ := List.mem_iff_getElem.1 h
  exact ⟨k, hk, nth_eq hk⟩
theorem mem_eth {l : List Ed} {n : Ed} (h : n ∈ l) : ∃ k, k < l.length ∧ eth l k = n := by
  obtain ⟨k, hk, rfl⟩ := List.mem_iff_getElem.1 h
  exact ⟨k, hk, by simp [eth, hk]⟩

theorem drop_nth {l : List Int} {k : Nat} (h : k < l.length) : (l.map (C.int .i64)).drop k = .int .i64 (nth l k) :: (l.drop (k + 1)).map (.int .i64) := by
  rw [nth_eq h]; exact drop_ints h

theorem len_edC : ∀ (l : List Ed), (l.flatMap edC).length = l.length * 3
  | [] => rfl
  | e :: r => by simp only [List.flatMap_cons, List.length_append, len_edC r, List.length_cons]; simp [edC]; omega

theorem drop_eth : ∀ {l : List Ed} {k : Nat}, k < l.length → (l.flatMap edC).drop (k * 3) = .int .i64 (eth l k).t :: .int .i64 (eth l k).f :: .int .i64 (eth l k).g :: (l.drop (k + 1)).flatMap edC
  | [], k, h => absurd h (by simp)
  | e :: r, 0, h => by simp [edC, eth]
  | e :: r, k + 1, h => by
    have ih := drop_eth (l := r) (k := k) (by simpa using h)
    have e1 : (k + 1) * 3 = k * 3 + 3 := by omega
    rw [e1, List.flatMap_cons]
    rw [show (edC e ++ List.flatMap edC r).drop (k * 3 + 3) = ((edC e ++ List.flatMap edC r).drop 3).drop (k * 3) by rw [List.drop_drop, Nat.add_comm]]
    simpa [edC, eth] using ih

theorem len_prC : ∀ (l : List (Int × Int)), (l.flatMap prC).length = l.length * 2
  | [] => rfl
  | e :: r => by simp only [List.flatMap_cons, List.length_append, len_prC r, List.length_cons]; simp [prC]; omega

theorem drop_pth : ∀ {l : List (Int × Int)} {k : Nat}, k < l.length → (l.flatMap prC).drop (k * 2) = .int .i64 (pth l k).1 :: .int .i64 (pth l k).2 :: (l.drop (k + 1)).flatMap prC
  | [], k, h => absurd h (by simp)
  | e :: r, 0, h => by simp [prC, pth]
  | e :: r, k + 1, h => by
    have ih := drop_pth (l := r) (k := k) (by simpa using h)
    have e1 : (k + 1) * 2 = k * 2 + 2 := by omega
    rw [e1, List.flatMap_cons]
    rw [show (prC e ++ List.flatMap prC r).drop (k * 2 + 2) = ((prC e ++ List.flatMap prC r).drop 2).drop (k * 2) by rw [List.drop_drop, Nat.add_comm]]
    simpa [prC, pth] using ih

theorem len_edL (l : List Ed) : (edL l).length = l.length * 3 := len_edC l
theorem drop_edL {l : List Ed} {k : Nat} (h : k < l.length) : (edL l).drop (k * 3) = .int .i64 (eth l k).t :: .int .i64 (eth l k).f :: .int .i64 (eth l k).g :: edL (l.drop (k + 1)) := drop_eth h
theorem len_prL (l : List (Int × Int)) : (prL l).length = l.length * 2 := len_prC l
theorem drop_prL {l : List (Int × Int)} {k : Nat} (h : k < l.length) : (prL l).drop (k * 2) = .int .i64 (pth l k).1 :: .int .i64 (pth l k).2 :: prL (l.drop (k + 1)) := drop_pth h

section mono
variable {P : Program}
theorem CallS.mono {f : FuncId} {args : List AV} {ob : Nm → Option Ob} {cnt : Nat → Nat} {R R' : AV → (Nm → Option Ob) → (Nat → Nat) → Prop} (h : CallS P f args ob cnt R) (hR : ∀ r ob cnt, R r ob cnt → R' r ob cnt) : CallS P f args ob cnt R' := by
  refine ⟨h.1, fun w0 Zc m w cargs h1 h2 h3 => (h.2 w0 Zc m w cargs h1 h2 h3).mono ?_⟩
  rintro e w' ⟨v, r, ob', cnt', m', he, hr, g⟩
  exact ⟨v, r, ob', cnt', m', he, hR _ _ _ hr, g⟩

theorem thereIs_mono {x : Option Eff} {K K' : Eff → Prop} (h : thereIs x K) (hK : ∀ E, K E → K' E) : thereIs x K' := by
  obtain ⟨E, h1, h2⟩ := h
  exact ⟨E, h1, hK E h2⟩

theorem awpOp_mono {o : MOp} {S : St} {K K' : AV → (Nm → Option Ob) → (Nat → Nat) → Prop} (h : awpOp P o S K) (hK : ∀ r ob cnt, K r ob cnt → K' r ob cnt) : awpOp P o S K' := by
  cases o with
  | call f nm args =>
    obtain ⟨g, caps, h1, h2⟩ := h
    exact ⟨g, caps, h1, h2.mono hK⟩
  | isnil neg x =>
    simp only [awpOp] at h ⊢
    split at h
    · exact fun b => hK _ _ _ (h b)
    · exact hK _ _ _ h
    · exact fun b hb => hK _ _ _ (h b hb)
    · exact h.elim
  | _ => exact thereIs_mono h fun E hE => hK _ _ _ hE

theorem awpOps_mono : ∀ {ops : List MOper} {S : St} {Q Q' : St → Prop}, awpOps P ops S Q → (∀ S, Q S → Q' S) → awpOps P ops S Q'
  | [], S, Q, Q', h, hQ => hQ S h
  | o :: r, S, Q, Q', h, hQ => by
    unfold awpOps at h ⊢
    split at h
    · exact awpOp_mono h fun _ _ _ h => awpOps_mono h hQ
    · obtain ⟨b', h1, h2, h3⟩ := h
      exact ⟨b', h1, fun e => awpOp_mono (h2 e) fun _ _ _ h => awpOps_mono h hQ, fun e => awpOps_mono (h3 e) hQ⟩

theorem dAwpOp_mono {o : MOp} {S : St} {K K' : Eff → Prop} (h : dAwpOp P S o K) (hK : ∀ E, K E → K' E) : dAwpOp P S o K' := by
  cases o with
  | call f nm args =>
    obtain ⟨g, targs, h1, h2, ⟨r, h3, h4, h5⟩ | ⟨typ, esz, n, cs, h3, h5⟩⟩ := h
    · exact ⟨g, targs, h1, h2, .inl ⟨r, h3, h4, hK _ h5⟩⟩
    · exact ⟨g, targs, h1, h2, .inr ⟨typ, esz, n, cs, h3, hK _ h5⟩⟩
  | isnil => exact h.elim
  | mkfn => exact h.elim
  | _ => exact thereIs_mono h hK

theorem drawOps_mono : ∀ {ops : List MOper} {S : St} {L : Log} {Q Q' : St → Log → Prop}, drawOps P ops S L Q → (∀ S L, Q S L → Q' S L) → drawOps P ops S L Q'
  | [], S, L, Q, Q', h, hQ => hQ S L h
  | o :: r, S, L, Q, Q', h, hQ => by
    unfold drawOps at h ⊢
    split at h
    · exact dAwpOp_mono h fun _ h => drawOps_mono h hQ
    · obtain ⟨b', h1, h2, h3⟩ := h
      exact ⟨b', h1, fun e => dAwpOp_mono (h2 e) fun _ h => drawOps_mono h hQ, fun e => drawOps_mono (h3 e) hQ⟩

theorem awp_mono : ∀ {c : MCode} {S : St} {Q Q' : X → St → Prop}, awp P (DR P) c Q S → (∀ x S, Q x S → Q' x S) → awp P (DR P) c Q' S := by
  intro c
  induction c with
  | skip => exact fun h hQ => hQ _ _ h
  | region ops => exact fun h hQ => awpOps_mono h fun S h => hQ _ _ h
  | draw deps ops => exact fun h hQ => drawOps_mono h fun S L h => ⟨h.1, hQ _ _ h.2⟩
  | seq a b iha ihb =>
    intro S Q Q' h hQ
    refine iha h fun x S' hx => ?_
    cases x with
    | normal => exact ihb hx hQ
    | exit i => exact hQ _ _ hx
    | ret => exact hQ _ _ hx
  | cond c a b iha ihb =>
    intro S Q Q' h hQ
    obtain ⟨t, h1, h2, h3⟩ := h
    exact ⟨t, h1, fun e => iha (h2 e) hQ, fun e => ihb (h3 e) hQ⟩
  | block id b ih =>
    intro S Q Q' h hQ
    refine ih h fun x S' hx => ?_
    cases x with
    | normal => exact hQ _ _ hx
    | exit i =>
      simp only at hx ⊢
      split at hx
      · rename_i e
        rw [if_pos e]
        exact hQ _ _ hx
      · rename_i e
        rw [if_neg e]
        exact hQ _ _ hx
    | ret => exact hQ _ _ hx
  | loop b ih =>
    intro S Q Q' h hQ
    obtain ⟨I, μ, h1, h2⟩ := h
    refine ⟨I, μ, h1, fun S hS => ih (h2 S hS) fun x S' hx => ?_⟩
    cases x with
    | normal => exact hx
    | exit i => exact hQ _ _ hx
    | ret => exact hQ _ _ hx
  | exit id => exact fun h hQ => hQ _ _ h
  | ret => exact fun h hQ => hQ _ _ h
end mono

/-- A loop that counts up to n in a variable. -/
theorem loop_count {P : Program} {b : MCode} {Q : X → St → Prop} {S : St} (c n : Nat) (J : Nat → St → Prop) (hn : n ≤ 9000000000000000000)
    (h0 : S.fr c = .one (.t (.int .i64 0)) ∧ J 0 S)
    (h1 : ∀ (k : Nat) (S : St), k < n → IntKind.i64.wrap ((k : Int) + 1) = ((k + 1 : Nat) : Int) → S.fr c = .one (.t (.int .i64 k)) → J k S → awp P (DR P) b (fun x S' => match x with | .normal => S'.fr c = .one (.t (.int .i64 ((k + 1 : Nat) : Int))) ∧ J (k + 1) S' | x => Q x S') S)
    (h2 : ∀ (S : St), S.fr c = .one (.t (.int .i64 n)) → J n S → awp P (DR P) b (fun x S' => match x with | .normal => False | x => Q x S') S) : loopP (awp P (DR P) b) Q S := by
  refine loop_intro (fun S => ∃ k : Nat, k ≤ n ∧ S.fr c = .one (.t (.int .i64 k)) ∧ J k S) (fun S => match S.fr c with | .one (.t (.int _ k)) => n - k.toNat | _ => 0) ⟨0, by omega, h0.1, h0.2⟩ ?_
  rintro S ⟨k, hk, hc, hj⟩
  by_cases hlt : k < n
  · refine awp_mono (h1 k S hlt (by rw [wrap64_id] <;> omega) hc hj) fun x S' hx => ?_
    cases x with
    | normal =>
      refine ⟨⟨k + 1, by omega, hx.1, hx.2⟩, ?_⟩
      simp only [hx.1, hc]
      omega
    | exit i => exact hx
    | ret => exact hx
  · have : k = n := by omega
    subst this
    refine awp_mono (h2 S hc hj) fun x S' hx => ?_
    cases x with
    | normal => exact hx.elim
    | exit i => exact hx
    | ret => exact hx
end Go.Proofs.Ythapbbpdcjmmfaa.Abs
