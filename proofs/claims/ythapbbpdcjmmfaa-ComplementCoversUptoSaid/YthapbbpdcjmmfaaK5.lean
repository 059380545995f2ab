/-
  Joined texts: the theorem of this claim and its last steps. No condition beyond those that each statement names.
-/
import Derived.Test.YthapbbpdcjmmfaaK4
import Derived.Test.YthapbbpdcjmmfaaProg
import Derived.KernelRfl
import Derived.Test.YthapbbpdcjmmfaaRows
import Derived.JoinedCond
import Derived.Deep.CondSized
/- Plain laws on pushouts and pullbacks of functions between the numbers below bounds. -/
namespace Go.Proofs.Ythapbbpdcjmmfaa.Po
set_option linter.unusedVariables false

/-- f takes the numbers below n to numbers below m. -/
def Maps (n m : Nat) (f : Nat → Nat) : Prop := ∀ i, i < n → f i < m

structure PO (nA nB nC nD : Nat) (f g h k : Nat → Nat) : Prop where
  comm : ∀ a, a < nA → h (f a) = k (g a)
  cover : ∀ d, d < nD → (∃ b, b < nB ∧ h b = d) ∨ (∃ c, c < nC ∧ k c = d)
  univ : ∀ φ ψ : Nat → Nat, (∀ a, a < nA → φ (f a) = ψ (g a)) → ∃ u : Nat → Nat, (∀ b, b < nB → u (h b) = φ b) ∧ (∀ c, c < nC → u (k c) = ψ c)

structure PB (nA nB nC : Nat) (f g h k : Nat → Nat) : Prop where
  comm : ∀ a, a < nA → h (f a) = k (g a)
  ex : ∀ b c, b < nB → c < nC → h b = k c → ∃ a, a < nA ∧ f a = b ∧ g a = c
  uniq : ∀ a a', a < nA → a' < nA → f a = f a' → g a = g a' → a = a'

theorem PO.symm {nA nB nC nD : Nat} {f g h k : Nat → Nat} (p : PO nA nB nC nD f g h k) : PO nA nC nB nD g f k h where
  comm := fun a ha => (p.comm a ha).symm
  cover := fun d hd => (p.cover d hd).symm
  univ := fun φ ψ hc => by
    obtain ⟨u, h1, h2⟩ := p.univ ψ φ (fun a ha => (hc a ha).symm)
    exact ⟨u, h2, h1⟩

theorem PB.symm {nA nB nC : Nat} {f g h k : Nat → Nat} (p : PB nA nB nC f g h k) : PB nA nC nB g f k h where
  comm := fun a ha => (p.comm a ha).symm
  ex := fun b c hb hc e => by
    obtain ⟨a, h1, h2, h3⟩ := p.ex c b hc hb e.symm
    exact ⟨a, h1, h3, h2⟩
  uniq := fun a a' h1 h2 e1 e2 => p.uniq a a' h1 h2 e2 e1

/-- Only the values below the bounds count. -/
theorem PO.congr {nA nB nC nD : Nat} {f g h k f' g' h' k' : Nat → Nat} (p : PO nA nB nC nD f g h k) (mf : Maps nA nB f) (mg : Maps nA nC g)
    (ef : ∀ i, i < nA → f' i = f i) (eg : ∀ i, i < nA → g' i = g i) (eh : ∀ i, i < nB → h' i = h i) (ek : ∀ i, i < nC → k' i = k i) : PO nA nB nC nD f' g' h' k' where
  comm := fun a ha => by rw [ef a ha, eg a ha, eh _ (mf a ha), ek _ (mg a ha)]; exact p.comm a ha
  cover := fun d hd => by
    rcases p.cover d hd with ⟨b, hb, e⟩ | ⟨c, hc, e⟩
    · exact .inl ⟨b, hb, by rw [eh b hb]; exact e⟩
    · exact .inr ⟨c, hc, by rw [ek c hc]; exact e⟩
  univ := fun φ ψ hc => by
    obtain ⟨u, h1, h2⟩ := p.univ φ ψ (fun a ha => by rw [← ef a ha, ← eg a ha]; exact hc a ha)
    exact ⟨u, fun b hb => by rw [eh b hb]; exact h1 b hb, fun c hc => by rw [ek c hc]; exact h2 c hc⟩

theorem PB.congr {nA nB nC : Nat} {f g h k f' g' h' k' : Nat → Nat} (p : PB nA nB nC f g h k) (mf : Maps nA nB f) (mg : Maps nA nC g)
    (ef : ∀ i, i < nA → f' i = f i) (eg : ∀ i, i < nA → g' i = g i) (eh : ∀ i, i < nB → h' i = h i) (ek : ∀ i, i < nC → k' i = k i) : PB nA nB nC f' g' h' k' where
  comm := fun a ha => by rw [ef a ha, eg a ha, eh _ (mf a ha), ek _ (mg a ha)]; exact p.comm a ha
  ex := fun b c hb hc e => by
    rw [eh b hb, ek c hc] at e
    obtain ⟨a, ha, h1, h2⟩ := p.ex b c hb hc e
    exact ⟨a, ha, by rw [ef a ha]; exact h1, by rw [eg a ha]; exact h2⟩
  uniq := fun a a' h1 h2 e1 e2 => by
    rw [ef a h1, ef a' h2] at e1
    rw [eg a h1, eg a' h2] at e2
    exact p.uniq a a' h1 h2 e1 e2

/-- The outer square of two pushouts is a pushout. -/
theorem po_paste {nA nB nC nD nE nF : Nat} {f g h k f2 h2 k2 : Nat → Nat} (p : PO nA nB nC nD f g h k) (q : PO nB nE nD nF f2 h h2 k2)
    (mf : Maps nA nB f) (mg : Maps nA nC g) (mh : Maps nB nD h) (mk : Maps nC nD k) (mf2 : Maps nB nE f2) :
    PO nA nE nC nF (fun a => f2 (f a)) g h2 (fun c => k2 (k c)) where
  comm := fun a ha => by
    show h2 (f2 (f a)) = k2 (k (g a))
    rw [q.comm (f a) (mf a ha), p.comm a ha]
  cover := fun d hd => by
    rcases q.cover d hd with ⟨b, hb, e⟩ | ⟨c, hc, e⟩
    · exact .inl ⟨b, hb, e⟩
    · rcases p.cover c hc with ⟨b, hb, e'⟩ | ⟨c', hc', e'⟩
      · refine .inl ⟨f2 b, ?_, ?_⟩
        · exact mf2 b hb
        · rw [q.comm b hb, e', e]
      · exact .inr ⟨c', hc', by show k2 (k c') = d; rw [e', e]⟩
  univ := fun φ ψ hc => by
    obtain ⟨u, h1, h2⟩ := p.univ (fun b => φ (f2 b)) ψ hc
    obtain ⟨v, h3, h4⟩ := q.univ φ u (fun b hb => (h1 b hb).symm)
    exact ⟨v, h3, fun c hc => by rw [h4 (k c) (mk c hc)]; exact h2 c hc⟩

/-- If the outer square and the first one are pushouts, so is the second one. -/
theorem po_second {nA nB nC nD nE nF : Nat} {f g h k f2 h2 k2 : Nat → Nat} (p : PO nA nB nC nD f g h k)
    (o : PO nA nE nC nF (fun a => f2 (f a)) g h2 (fun c => k2 (k c)))
    (cm : ∀ b, b < nB → h2 (f2 b) = k2 (h b)) (mf : Maps nA nB f) (mg : Maps nA nC g) (mk : Maps nC nD k) (mf2 : Maps nB nE f2) : PO nB nE nD nF f2 h h2 k2 where
  comm := cm
  cover := fun d hd => by
    rcases o.cover d hd with ⟨b, hb, e⟩ | ⟨c, hc, e⟩
    · exact .inl ⟨b, hb, e⟩
    · exact .inr ⟨k c, mk c hc, e⟩
  univ := fun φ u hc => by
    obtain ⟨v, h3, h4⟩ := o.univ φ (fun c => u (k c)) (fun a ha => by
      show φ (f2 (f a)) = u (k (g a))
      rw [hc (f a) (mf a ha), p.comm a ha])
    refine ⟨v, h3, fun d hd => ?_⟩
    rcases p.cover d hd with ⟨b, hb, e⟩ | ⟨c, hc', e⟩
    · rw [← e, ← cm b hb, h3 _ (mf2 b hb), hc b hb]
    · rw [← e]; exact h4 c hc'

open Classical in
/-- A pushout that is pulled back along m is a pushout. -/
theorem po_lift {nA nB nC nD nX nA' nB' nC' : Nat} {f g h k m pa xa pb xb pc xc f' g' : Nat → Nat} (p : PO nA nB nC nD f g h k)
    (mf : Maps nA nB f) (mg : Maps nA nC g) (mm : Maps nX nD m)
    (B : PB nB' nB nX pb xb h m) (C : PB nC' nC nX pc xc k m) (A : PB nA' nA nX pa xa (fun a => h (f a)) m)
    (mpb : Maps nB' nB pb) (mxb : Maps nB' nX xb) (mpc : Maps nC' nC pc) (mxc : Maps nC' nX xc) (mpa : Maps nA' nA pa)
    (mf' : Maps nA' nB' f') (mg' : Maps nA' nC' g')
    (ef : ∀ a, a < nA' → pb (f' a) = f (pa a)) (ef2 : ∀ a, a < nA' → xb (f' a) = xa a)
    (eg : ∀ a, a < nA' → pc (g' a) = g (pa a)) (eg2 : ∀ a, a < nA' → xc (g' a) = xa a) : PO nA' nB' nC' nX f' g' xb xc where
  comm := fun a ha => by rw [ef2 a ha, eg2 a ha]
  cover := fun x hx => by
    rcases p.cover (m x) (mm x hx) with ⟨b, hb, e⟩ | ⟨c, hc, e⟩
    · obtain ⟨b', h1, _, h3⟩ := B.ex b x hb hx e
      exact .inl ⟨b', h1, h3⟩
    · obtain ⟨c', h1, _, h3⟩ := C.ex c x hc hx e
      exact .inr ⟨c', h1, h3⟩
  univ := fun φ ψ hc => by
    let φx : Nat → Nat → Nat := fun x b => if e : ∃ b', b' < nB' ∧ pb b' = b ∧ xb b' = x then φ e.choose + 1 else 0
    let ψx : Nat → Nat → Nat := fun x c => if e : ∃ c', c' < nC' ∧ pc c' = c ∧ xc c' = x then ψ e.choose + 1 else 0
    have hφ : ∀ b', b' < nB' → φx (xb b') (pb b') = φ b' + 1 := fun b' hb' => by
      have e : ∃ b'', b'' < nB' ∧ pb b'' = pb b' ∧ xb b'' = xb b' := ⟨b', hb', rfl, rfl⟩
      have := e.choose_spec
      show (if e : ∃ b'', b'' < nB' ∧ pb b'' = pb b' ∧ xb b'' = xb b' then φ e.choose + 1 else 0) = _
      rw [dif_pos e, B.uniq _ _ this.1 hb' this.2.1 this.2.2]
    have hψ : ∀ c', c' < nC' → ψx (xc c') (pc c') = ψ c' + 1 := fun c' hc' => by
      have e : ∃ c'', c'' < nC' ∧ pc c'' = pc c' ∧ xc c'' = xc c' := ⟨c', hc', rfl, rfl⟩
      have := e.choose_spec
      show (if e : ∃ c'', c'' < nC' ∧ pc c'' = pc c' ∧ xc c'' = xc c' then ψ e.choose + 1 else 0) = _
      rw [dif_pos e, C.uniq _ _ this.1 hc' this.2.1 this.2.2]
    have cone : ∀ x, x < nX → ∃ u : Nat → Nat, (∀ b, b < nB → u (h b) = φx x b) ∧ (∀ c, c < nC → u (k c) = ψx x c) := fun x hx => by
      refine p.univ _ _ fun a ha => ?_
      by_cases e : h (f a) = m x
      · obtain ⟨a', h1, h2, h3⟩ := A.ex a x ha hx e
        have e1 := hφ (f' a') (mf' a' h1)
        have e2 := hψ (g' a') (mg' a' h1)
        rw [ef a' h1, ef2 a' h1, h2, h3] at e1
        rw [eg a' h1, eg2 a' h1, h2, h3] at e2
        rw [e1, e2, hc a' h1]
      · have n1 : ¬ ∃ b', b' < nB' ∧ pb b' = f a ∧ xb b' = x := by
          rintro ⟨b', h1, h2, h3⟩
          have := B.comm b' h1
          rw [h2, h3] at this
          exact e this
        have n2 : ¬ ∃ c', c' < nC' ∧ pc c' = g a ∧ xc c' = x := by
          rintro ⟨c', h1, h2, h3⟩
          have := C.comm c' h1
          rw [h2, h3, ← p.comm a ha] at this
          exact e this
        show (if e : ∃ b', b' < nB' ∧ pb b' = f a ∧ xb b' = x then φ e.choose + 1 else 0) = (if e : ∃ c', c' < nC' ∧ pc c' = g a ∧ xc c' = x then ψ e.choose + 1 else 0)
        rw [dif_neg n1, dif_neg n2]
    refine ⟨fun x => if e : x < nX then (cone x e).choose (m x) - 1 else 0, fun b hb => ?_, fun c hc => ?_⟩
    · have hx := mxb b hb
      have := (cone _ hx).choose_spec.1 (pb b) (mpb b hb)
      show (if e : xb b < nX then (cone (xb b) e).choose (m (xb b)) - 1 else 0) = φ b
      rw [dif_pos hx, ← B.comm b hb, this, hφ b hb]
      rfl
    · have hx := mxc c hc
      have := (cone _ hx).choose_spec.2 (pc c) (mpc c hc)
      show (if e : xc c < nX then (cone (xc c) e).choose (m (xc c)) - 1 else 0) = ψ c
      rw [dif_pos hx, ← C.comm c hc, this, hψ c hc]
      rfl

open Classical in
/-- A pushout along an injective map is a pullback. -/
theorem po_inj {nA nB nC nD : Nat} {f g h k : Nat → Nat} (p : PO nA nB nC nD f g h k) (mf : Maps nA nB f)
    (inj : ∀ a a', a < nA → a' < nA → f a = f a' → a = a') : PB nA nB nC f g h k where
  comm := p.comm
  uniq := fun a a' h1 h2 e _ => inj a a' h1 h2 e
  ex := fun b c hb hc e => by
    obtain ⟨u, h1, h2⟩ := p.univ (fun b => if e : ∃ a, a < nA ∧ f a = b then g e.choose + 1 else 0) (fun c => c + 1) (fun a ha => by
      have e : ∃ a', a' < nA ∧ f a' = f a := ⟨a, ha, rfl⟩
      show (if e : ∃ a', a' < nA ∧ f a' = f a then g e.choose + 1 else 0) = g a + 1
      rw [dif_pos e, inj _ _ e.choose_spec.1 ha e.choose_spec.2])
    have e1 := h1 b hb
    rw [e, h2 c hc] at e1
    by_cases ex : ∃ a, a < nA ∧ f a = b
    · have e2 : c + 1 = g ex.choose + 1 := by rw [dif_pos ex] at e1; exact e1
      exact ⟨ex.choose, ex.choose_spec.1, ex.choose_spec.2, by omega⟩
    · rw [dif_neg ex] at e1
      omega

open Classical in
/-- Two parts that cover a set: what is kept (F) of L lies in the part (K) of G, and nothing else of L does. -/
theorem po_parts {nF nL nK nG : Nat} {f g m k : Nat → Nat} (cm : ∀ a, a < nF → m (f a) = k (g a))
    (ink : ∀ c c', c < nK → c' < nK → k c = k c' → c = c')
    (cover : ∀ d, d < nG → (∃ b, b < nL ∧ m b = d) ∨ (∃ c, c < nK ∧ k c = d))
    (both : ∀ b c, b < nL → c < nK → m b = k c → ∃ a, a < nF ∧ f a = b ∧ g a = c)
    (one : ∀ b b', b < nL → b' < nL → m b = m b' → b = b' ∨ ∃ c, c < nK ∧ k c = m b) : PO nF nL nK nG f g m k where
  comm := cm
  cover := cover
  univ := fun φ ψ hc => by
    let u : Nat → Nat := fun y => if e : ∃ c, c < nK ∧ k c = y then ψ e.choose else if e : ∃ b, b < nL ∧ m b = y then φ e.choose else 0
    have hk : ∀ c, c < nK → u (k c) = ψ c := fun c hc => by
      have e : ∃ c', c' < nK ∧ k c' = k c := ⟨c, hc, rfl⟩
      show (if e : ∃ c', c' < nK ∧ k c' = k c then ψ e.choose else if e : ∃ b, b < nL ∧ m b = k c then φ e.choose else 0) = ψ c
      rw [dif_pos e, ink _ _ e.choose_spec.1 hc e.choose_spec.2]
    refine ⟨u, fun b hb => ?_, hk⟩
    by_cases e : ∃ c, c < nK ∧ k c = m b
    · obtain ⟨c, h1, h2⟩ := e
      obtain ⟨a, h3, h4, h5⟩ := both b c hb h1 h2.symm
      rw [← h2, hk c h1, ← h5, ← hc a h3, h4]
    · have e2 : ∃ b', b' < nL ∧ m b' = m b := ⟨b, hb, rfl⟩
      show (if e : ∃ c', c' < nK ∧ k c' = m b then ψ e.choose else if e : ∃ b', b' < nL ∧ m b' = m b then φ e.choose else 0) = φ b
      rw [dif_neg e, dif_pos e2]
      rcases one _ _ e2.choose_spec.1 hb e2.choose_spec.2 with h | h
      · rw [h]
      · rw [e2.choose_spec.2] at h
        exact absurd h e

theorem pb_parts {nF nL nK : Nat} {f g m k : Nat → Nat} (cm : ∀ a, a < nF → m (f a) = k (g a))
    (inf : ∀ a a', a < nF → a' < nF → f a = f a' → a = a')
    (both : ∀ b c, b < nL → c < nK → m b = k c → ∃ a, a < nF ∧ f a = b ∧ g a = c) : PB nF nL nK f g m k where
  comm := cm
  ex := both
  uniq := fun a a' h1 h2 e _ => inf a a' h1 h2 e

/-- What mediates from a pushout (E) to a pushout (D) is one to one and onto. -/
theorem po_iso {nA nB nC nD nE : Nat} {f g h k p q m : Nat → Nat} (D : PO nA nB nC nD f g h k) (E : PO nA nB nC nE f g p q)
    (mp : Maps nB nE p) (mq : Maps nC nE q) (hm : ∀ b, b < nB → m (p b) = h b) (km : ∀ c, c < nC → m (q c) = k c) :
    (∀ e e', e < nE → e' < nE → m e = m e' → e = e') ∧ (∀ d, d < nD → ∃ e, e < nE ∧ m e = d) := by
  obtain ⟨u, h1, h2⟩ := D.univ p q E.comm
  have hu : ∀ e, e < nE → u (m e) = e := fun e he => by
    rcases E.cover e he with ⟨b, hb, rfl⟩ | ⟨c, hc, rfl⟩
    · rw [hm b hb, h1 b hb]
    · rw [km c hc, h2 c hc]
  refine ⟨fun e e' he he' eq => ?_, fun d hd => ?_⟩
  · rw [← hu e he, ← hu e' he', eq]
  · rcases D.cover d hd with ⟨b, hb, e⟩ | ⟨c, hc, e⟩
    · exact ⟨p b, mp b hb, by rw [hm b hb, e]⟩
    · exact ⟨q c, mq c hc, by rw [km c hc, e]⟩

open Classical in
/-- What a pushout (E) is taken to, one to one and onto, is a pushout. -/
theorem po_of_iso {nA nB nC nD nE : Nat} {f g h k p q m : Nat → Nat} (E : PO nA nB nC nE f g p q)
    (mp : Maps nB nE p) (mq : Maps nC nE q) (hm : ∀ b, b < nB → m (p b) = h b) (km : ∀ c, c < nC → m (q c) = k c)
    (mf : Maps nA nB f) (mg : Maps nA nC g)
    (inj : ∀ e e', e < nE → e' < nE → m e = m e' → e = e') (sur : ∀ d, d < nD → ∃ e, e < nE ∧ m e = d) : PO nA nB nC nD f g h k where
  comm := fun a ha => by rw [← hm _ (mf a ha), ← km _ (mg a ha), E.comm a ha]
  cover := fun d hd => by
    obtain ⟨e, he, rfl⟩ := sur d hd
    rcases E.cover e he with ⟨b, hb, rfl⟩ | ⟨c, hc, rfl⟩
    · exact .inl ⟨b, hb, (hm b hb).symm⟩
    · exact .inr ⟨c, hc, (km c hc).symm⟩
  univ := fun φ ψ hc => by
    obtain ⟨v, h1, h2⟩ := E.univ φ ψ hc
    have inv : ∀ e, e < nE → ∀ x : ∃ e', e' < nE ∧ m e' = m e, x.choose = e := fun e he x => inj _ _ x.choose_spec.1 he x.choose_spec.2
    refine ⟨fun d => if x : ∃ e, e < nE ∧ m e = d then v x.choose else 0, fun b hb => ?_, fun c hc => ?_⟩
    · have x : ∃ e, e < nE ∧ m e = m (p b) := ⟨_, mp b hb, rfl⟩
      rw [← hm b hb]
      show (if x : ∃ e, e < nE ∧ m e = m (p b) then v x.choose else 0) = φ b
      rw [dif_pos x, inv _ (mp b hb) x, h1 b hb]
    · have x : ∃ e, e < nE ∧ m e = m (q c) := ⟨_, mq c hc, rfl⟩
      rw [← km c hc]
      show (if x : ∃ e, e < nE ∧ m e = m (q c) then v x.choose else 0) = ψ c
      rw [dif_pos x, inv _ (mq c hc) x, h2 c hc]

/-- A cone is a pullback exactly if what mediates to a pullback (E) is one to one and onto. -/
theorem pb_iso {nA nB nC nE : Nat} {f g h k p q m : Nat → Nat} (A : PB nA nB nC f g h k) (E : PB nE nB nC p q h k)
    (mp : Maps nE nB p) (mq : Maps nE nC q) (mm : Maps nA nE m) (fm : ∀ a, a < nA → p (m a) = f a) (gm : ∀ a, a < nA → q (m a) = g a) :
    (∀ a a', a < nA → a' < nA → m a = m a' → a = a') ∧ (∀ e, e < nE → ∃ a, a < nA ∧ m a = e) := by
  refine ⟨fun a a' ha ha' e => A.uniq a a' ha ha' (by rw [← fm a ha, ← fm a' ha', e]) (by rw [← gm a ha, ← gm a' ha', e]), fun e he => ?_⟩
  obtain ⟨a, h1, h2, h3⟩ := A.ex (p e) (q e) (mp e he) (mq e he) (E.comm e he)
  exact ⟨a, h1, E.uniq _ _ (mm a h1) he (by rw [fm a h1, h2]) (by rw [gm a h1, h3])⟩

theorem pb_of_iso {nA nB nC nE : Nat} {f g h k p q m : Nat → Nat} (E : PB nE nB nC p q h k)
    (mm : Maps nA nE m) (fm : ∀ a, a < nA → p (m a) = f a) (gm : ∀ a, a < nA → q (m a) = g a)
    (inj : ∀ a a', a < nA → a' < nA → m a = m a' → a = a') (sur : ∀ e, e < nE → ∃ a, a < nA ∧ m a = e) : PB nA nB nC f g h k where
  comm := fun a ha => by rw [← fm a ha, ← gm a ha, E.comm _ (mm a ha)]
  ex := fun b c hb hc e => by
    obtain ⟨x, h1, h2, h3⟩ := E.ex b c hb hc e
    obtain ⟨a, ha, rfl⟩ := sur x h1
    exact ⟨a, ha, by rw [← fm a ha, h2], by rw [← gm a ha, h3]⟩
  uniq := fun a a' ha ha' e1 e2 => inj a a' ha ha' (E.uniq _ _ (mm a ha) (mm a' ha') (by rw [fm a ha, fm a' ha', e1]) (by rw [gm a ha, gm a' ha', e2]))
end Go.Proofs.Ythapbbpdcjmmfaa.Po

/- The standard pushout is a pushout; what mediates out of it. No program in sight. -/
namespace Go.Proofs.Ythapbbpdcjmmfaa
open Abs Po
set_option linter.unusedSimpArgs false
set_option linter.unusedVariables false

/-- A list of numbers as a function. -/
def fn (l : List Int) (i : Nat) : Nat := (nth l i).toNat
theorem fn_at {l : List Int} {n i : Nat} (h : placesIn l n) (hi : i < l.length) : nth l i = (fn l i : Nat) ∧ fn l i < n := by
  have := h _ (nth_mem hi)
  simp only [fn]
  omega
theorem fn_maps {l : List Int} {n m : Nat} (h : placesIn l n) (hl : l.length = m) : Maps m n (fn l) := fun i hi => (fn_at h (by omega)).2
theorem fn_thru {a b : List Int} {i : Nat} (h : i < a.length) : fn (thru a b) i = fn b (fn a i) := by simp only [fn, thru_nth h]
theorem fn_num {a n i : Nat} (h : i < n) : fn (numL a n) i = a + i := by simp only [fn, numL_nth h, Int.toNat_natCast]

theorem cls_surj {p : List Int} : ∀ {n d : Nat}, d < clsN p n → ∃ r : Nat, r < n ∧ nth p r = r ∧ clsN p r = d
  | 0, d, h => absurd h (by simp [clsN])
  | n + 1, d, h => by
    simp only [clsN] at h
    by_cases e : nth p n = n
    · rw [if_pos e] at h
      by_cases e2 : d < clsN p n
      · obtain ⟨r, h1, h2, h3⟩ := cls_surj e2
        exact ⟨r, by omega, h2, h3⟩
      · exact ⟨n, by omega, e, by omega⟩
    · rw [if_neg e] at h
      obtain ⟨r, h1, h2, h3⟩ := cls_surj h
      exact ⟨r, by omega, h2, h3⟩
theorem cls_inj {p : List Int} {a b : Nat} (ha : nth p a = a) (hb : nth p b = b) (h : clsN p a = clsN p b) : a = b := by
  rcases Nat.lt_trichotomy a b with e | e | e
  · have := clsN_lt ha e
    omega
  · exact e
  · have := clsN_lt hb e
    omega
/-- The root of an element's class. -/
theorem root_of {p : List Int} {n i : Nat} (hp : Flat p) (hn : p.length = n) (hi : i < n) : ∃ r : Nat, nth p i = r ∧ r < n ∧ nth p r = r := by
  obtain ⟨j, hj, hle⟩ := hp.fo.at (i := i) (by omega)
  have := hp.fx i (by omega)
  rw [hj, Int.toNat_natCast] at this
  exact ⟨j, hj, by omega, this⟩

section lists
variable {nA nB nC : Nat} {F G : List Int}
def glL (nA nB nC : Nat) (F G : List Int) : List (Int × Int) := pgK F G (numL 0 nB) (numL nB nC) nA
theorem glL_in (lF : F.length = nA) (lG : G.length = nA) (pF : placesIn F nB) (pG : placesIn G nC) : pairsIn (glL nA nB nC F G) (nB + nC) := fun q hq => by
  simp only [glL, pgK, List.mem_map, List.mem_range] at hq
  obtain ⟨i, hi, rfl⟩ := hq
  obtain ⟨a1, a2⟩ := fn_at pF (show i < F.length by omega)
  obtain ⟨b1, b2⟩ := fn_at pG (show i < G.length by omega)
  simp only [a1, b1, Int.toNat_natCast]
  rw [numL_nth a2, numL_nth b2]
  omega
theorem glL_at (lF : F.length = nA) (lG : G.length = nA) (pF : placesIn F nB) (pG : placesIn G nC) {i : Nat} (hi : i < nA) : (((fn F i : Nat) : Int), ((nB + fn G i : Nat) : Int)) ∈ glL nA nB nC F G := by
  simp only [glL, pgK, List.mem_map, List.mem_range]
  obtain ⟨a1, a2⟩ := fn_at pF (show i < F.length by omega)
  obtain ⟨b1, b2⟩ := fn_at pG (show i < G.length by omega)
  refine ⟨i, hi, ?_⟩
  simp only [a1, b1, Int.toNat_natCast]
  rw [numL_nth a2, numL_nth b2]
  simp
theorem glL_mem (lF : F.length = nA) (lG : G.length = nA) (pF : placesIn F nB) (pG : placesIn G nC) {q : Int × Int} (hq : q ∈ glL nA nB nC F G) : ∃ i, i < nA ∧ q = (((fn F i : Nat) : Int), ((nB + fn G i : Nat) : Int)) := by
  simp only [glL, pgK, List.mem_map, List.mem_range] at hq
  obtain ⟨i, hi, rfl⟩ := hq
  obtain ⟨a1, a2⟩ := fn_at pF (show i < F.length by omega)
  obtain ⟨b1, b2⟩ := fn_at pG (show i < G.length by omega)
  refine ⟨i, hi, ?_⟩
  simp only [a1, b1, Int.toNat_natCast]
  rw [numL_nth a2, numL_nth b2]
  simp
def prt (nA nB nC : Nat) (F G : List Int) : List Int := genL (nB + nC) (glL nA nB nC F G)
def qL (nA nB nC : Nat) (F G : List Int) : List Int := thru (numL 0 nB) (quotL (prt nA nB nC F G))
def qR (nA nB nC : Nat) (F G : List Int) : List Int := thru (numL nB nC) (quotL (prt nA nB nC F G))
theorem prt_len : (prt nA nB nC F G).length = nB + nC := genL_len
theorem qL_at {b : Nat} (hb : b < nB) : fn (qL nA nB nC F G) b = clsN (prt nA nB nC F G) (nth (prt nA nB nC F G) b).toNat := by
  rw [qL, fn_thru (by rw [numL_len]; exact hb), fn_num hb, Nat.zero_add, fn, quotL_nth (by rw [prt_len]; omega), Int.toNat_natCast]
theorem qR_at {c : Nat} (hc : c < nC) : fn (qR nA nB nC F G) c = clsN (prt nA nB nC F G) (nth (prt nA nB nC F G) (nB + c)).toNat := by
  rw [qR, fn_thru (by rw [numL_len]; exact hc), fn_num hc, fn, quotL_nth (by rw [prt_len]; omega), Int.toNat_natCast]

open Classical in
/-- The standard pushout of lists of numbers is one. -/
theorem po_lists (lF : F.length = nA) (lG : G.length = nA) (pF : placesIn F nB) (pG : placesIn G nC) :
    PO nA nB nC (clsN (prt nA nB nC F G) (nB + nC)) (fn F) (fn G) (fn (qL nA nB nC F G)) (fn (qR nA nB nC F G)) := by
  have hin := glL_in lF lG pF pG
  have hp : Flat (prt nA nB nC F G) := genL_flat hin
  refine ⟨fun a ha => ?_, fun d hd => ?_, fun φ ψ hc => ?_⟩
  · obtain ⟨_, a2⟩ := fn_at pF (show a < F.length by omega)
    obtain ⟨_, b2⟩ := fn_at pG (show a < G.length by omega)
    rw [qL_at a2, qR_at b2]
    have := genL_pair hin (glL_at lF lG pF pG ha)
    simp only [Int.toNat_natCast] at this
    rw [← prt] at this
    rw [this]
  · obtain ⟨r, h1, h2, h3⟩ := cls_surj hd
    by_cases hb : r < nB
    · exact .inl ⟨r, hb, by rw [qL_at hb, h2, Int.toNat_natCast, h3]⟩
    · refine .inr ⟨r - nB, by omega, ?_⟩
      rw [qR_at (by omega), show nB + (r - nB) = r by omega, h2, Int.toNat_natCast, h3]
  · let f : Nat → Nat := fun i => if i < nB then φ i else ψ (i - nB)
    have hf : ∀ i, i < nB + nC → f (nth (prt nA nB nC F G) i).toNat = f i := fun i hi => genL_inv hin (fun q hq => by
      obtain ⟨j, hj, rfl⟩ := glL_mem lF lG pF pG hq
      obtain ⟨_, a2⟩ := fn_at pF (show j < F.length by omega)
      simp only [Int.toNat_natCast, f]
      rw [if_pos a2, if_neg (by omega), show nB + fn G j - nB = fn G j by omega]
      exact hc j hj) hi
    let u : Nat → Nat := fun d => if e : ∃ r : Nat, nth (prt nA nB nC F G) r = r ∧ clsN (prt nA nB nC F G) r = d then f e.choose else 0
    have hu : ∀ i, i < nB + nC → u (clsN (prt nA nB nC F G) (nth (prt nA nB nC F G) i).toNat) = f i := fun i hi => by
      obtain ⟨r, h1, h2, h3⟩ := root_of hp prt_len hi
      have e : ∃ r' : Nat, nth (prt nA nB nC F G) r' = r' ∧ clsN (prt nA nB nC F G) r' = clsN (prt nA nB nC F G) r := ⟨r, h3, rfl⟩
      have h4 := hf i hi
      rw [h1, Int.toNat_natCast] at h4
      rw [h1, Int.toNat_natCast]
      show (if e : ∃ r' : Nat, nth (prt nA nB nC F G) r' = r' ∧ clsN (prt nA nB nC F G) r' = clsN (prt nA nB nC F G) r then f e.choose else 0) = f i
      rw [dif_pos e, cls_inj e.choose_spec.1 h3 e.choose_spec.2, h4]
    refine ⟨u, fun b hb => ?_, fun c hc' => ?_⟩
    · rw [qL_at hb, hu b (by omega)]
      exact if_pos hb
    · rw [qR_at hc', hu (nB + c) (by omega)]
      simp only [f]
      rw [if_neg (by omega), show nB + c - nB = c by omega]
end lists

/-! ### Writing a list at some places -/
theorem wr_fold {u : Nat → Int} {n : Nat} : ∀ {ws : List (Int × Int)} {o : List Int}, o.length = n → (∀ w ∈ ws, 0 ≤ w.1 ∧ w.1 < n ∧ w.2 = u w.1.toNat) →
    ∀ j, nth (ws.foldl (fun o w => o.set w.1.toNat w.2) o) j = if ∃ w ∈ ws, w.1.toNat = j then u j else nth o j
  | [], o, ho, _, j => by simp
  | w :: r, o, ho, h, j => by
    rw [List.foldl_cons, wr_fold (n := n) (by rw [List.length_set]; exact ho) (fun x hx => h x (List.mem_cons_of_mem _ hx)) j]
    obtain ⟨h1, h2, h3⟩ := h w (List.mem_cons_self ..)
    by_cases e : ∃ x ∈ r, x.1.toNat = j
    · obtain ⟨x, hx, hj⟩ := e
      rw [if_pos ⟨x, hx, hj⟩, if_pos ⟨x, List.mem_cons_of_mem _ hx, hj⟩]
    · rw [if_neg e, nth_set (by omega)]
      by_cases ej : j = w.1.toNat
      · rw [if_pos ej, if_pos ⟨w, List.mem_cons_self .., ej.symm⟩, h3, ej]
      · rw [if_neg ej, if_neg]
        rintro ⟨x, hx, hj⟩
        rcases List.mem_cons.1 hx with rfl | hx
        · exact ej hj.symm
        · exact e ⟨x, hx, hj⟩
theorem wrL_at {u : Nat → Int} {n : Nat} {ws : List (Int × Int)} (h : ∀ w ∈ ws, 0 ≤ w.1 ∧ w.1 < n ∧ w.2 = u w.1.toNat) {w : Int × Int} (hw : w ∈ ws) : nth (wrL n ws) w.1.toNat = w.2 := by
  rw [wrL, wr_fold (n := n) (by simp) h, if_pos ⟨w, hw, rfl⟩, (h w hw).2.2]
end Go.Proofs.Ythapbbpdcjmmfaa

/- The standard pushout of graphs: its morphisms; what mediates out of it; when a cocone is a pushout. No program in sight. -/
namespace Go.Proofs.Ythapbbpdcjmmfaa
open Abs Po
set_option linter.unusedSimpArgs false
set_option linter.unusedVariables false

/-! ### Errors that there are not -/
theorem gErr_of {g : Gr} (h : GrOk g) : gErr g = 0 := by
  have h1 := h.n
  have h2 := h.e
  have b1 : nBad g.nodes = false := by
    rw [nBad, List.any_eq_false]
    intro x hx
    have := h.kinds x hx
    simp [within]
    omega
  have b2 : eBad g.nodes.length g.edges = false := by
    rw [eBad, List.any_eq_false]
    intro e he
    have := h.edges e he
    simp [eOk, within]
    omega
  rw [gErr, if_neg (by omega), b1, b2]
  rfl
theorem mor_zero {a b : Gr} {m : Pa} (h : MorOk a b m) : morErr a b m = 0 := by
  have l1 := h.ln
  have l2 := h.le
  rw [morErr, if_pos (gErr_of h.ga), if_pos (gErr_of h.gb), if_pos (by omega)]
  have e1 : fe (mnF a b m) m.nodes.length = 0 := fe_zero fun i hi => by
    obtain ⟨a1, a2, a3⟩ := h.n i (by omega)
    rw [mnF, if_neg (by omega), if_neg (by omega), if_pos a3]
  have e2 : fe (meF a b m) m.edges.length = 0 := fe_zero fun i hi => by
    obtain ⟨a1, a2, a3, a4, a5⟩ := h.e i (by omega)
    rw [meF, if_neg (by omega), if_neg (by omega), if_pos a3, if_pos a4, if_pos a5]
  rw [if_pos e1, e2]
theorem mor_iff {a b : Gr} {m : Pa} : morErr a b m = 0 ↔ MorOk a b m := ⟨mor_ok, mor_zero⟩

/-- A morphism in functions. -/
structure Hom (a b : Gr) (m : Pa) : Prop where
  ln : m.nodes.length = a.nodes.length
  le : m.edges.length = a.edges.length
  pn : placesIn m.nodes b.nodes.length
  pe : placesIn m.edges b.edges.length
  kn : ∀ i, i < a.nodes.length → nth b.nodes (fn m.nodes i) = nth a.nodes i
  ke : ∀ i, i < a.edges.length → (eth b.edges (fn m.edges i)).t = (eth a.edges i).t ∧ (eth b.edges (fn m.edges i)).f = nth m.nodes (eth a.edges i).f.toNat ∧ (eth b.edges (fn m.edges i)).g = nth m.nodes (eth a.edges i).g.toNat
theorem MorOk.hom {a b : Gr} {m : Pa} (h : MorOk a b m) : Hom a b m := by
  refine ⟨h.ln, h.le, h.rn, h.re, fun i hi => (h.n i hi).2.2, fun i hi => ?_⟩
  obtain ⟨_, _, e1, e2, e3⟩ := h.e i hi
  exact ⟨e1.symm, e2.symm, e3.symm⟩
theorem Hom.ok {a b : Gr} {m : Pa} (h : Hom a b m) (ga : GrOk a) (gb : GrOk b) : MorOk a b m := by
  refine ⟨ga, gb, h.ln, h.le, fun i hi => ?_, fun i hi => ?_⟩
  · have := h.pn _ (nth_mem (l := m.nodes) (k := i) (by rw [h.ln]; exact hi))
    exact ⟨this.1, this.2, h.kn i hi⟩
  · have := h.pe _ (nth_mem (l := m.edges) (k := i) (by rw [h.le]; exact hi))
    obtain ⟨e1, e2, e3⟩ := h.ke i hi
    exact ⟨this.1, this.2, e1.symm, e2.symm, e3.symm⟩
theorem Hom.mn {a b : Gr} {m : Pa} (h : Hom a b m) : Maps a.nodes.length b.nodes.length (fn m.nodes) := fn_maps h.pn h.ln
theorem Hom.me {a b : Gr} {m : Pa} (h : Hom a b m) : Maps a.edges.length b.edges.length (fn m.edges) := fn_maps h.pe h.le

/-- The two squares of functions of a span with a cocone are pushouts. -/
def IsPO (s : Sp) (d : Gr) (h k : Pa) : Prop :=
  PO s.A.nodes.length s.B.nodes.length s.C.nodes.length d.nodes.length (fn s.F.nodes) (fn s.G.nodes) (fn h.nodes) (fn k.nodes) ∧
  PO s.A.edges.length s.B.edges.length s.C.edges.length d.edges.length (fn s.F.edges) (fn s.G.edges) (fn h.edges) (fn k.edges)

theorem poP_prt {s : Sp} : poP s = prt s.F.nodes.length s.B.nodes.length s.C.nodes.length s.F.nodes s.G.nodes := by rw [poP, poU, unG_nlen]; rfl
theorem poQ_prt {s : Sp} : poQ s = prt s.F.edges.length s.B.edges.length s.C.edges.length s.F.edges s.G.edges := by rw [poQ, poU, unG_elen]; rfl
theorem poI_q {s : Sp} : (poI s).nodes = qL s.F.nodes.length s.B.nodes.length s.C.nodes.length s.F.nodes s.G.nodes ∧ (poI s).edges = qL s.F.edges.length s.B.edges.length s.C.edges.length s.F.edges s.G.edges := by
  rw [qL, qL, ← poP_prt, ← poQ_prt]; exact ⟨rfl, rfl⟩
theorem poJ_q {s : Sp} : (poJ s).nodes = qR s.F.nodes.length s.B.nodes.length s.C.nodes.length s.F.nodes s.G.nodes ∧ (poJ s).edges = qR s.F.edges.length s.B.edges.length s.C.edges.length s.F.edges s.G.edges := by
  rw [qR, qR, ← poP_prt, ← poQ_prt]; exact ⟨rfl, rfl⟩
theorem poG_len {s : Sp} : (poG s).nodes.length = clsN (poP s) (s.B.nodes.length + s.C.nodes.length) ∧ (poG s).edges.length = clsN (poQ s) (s.B.edges.length + s.C.edges.length) := by
  rw [poG, quoG_nlen, quoG_elen, poU, unG_nlen, unG_elen]; exact ⟨rfl, rfl⟩
/-- The standard pushout is one. -/
theorem po_std {s : Sp} (ok : SpOk s) : IsPO s (poG s) (poI s) (poJ s) := by
  have l1 := ok.F.ln
  have l2 := ok.F.le
  refine ⟨?_, ?_⟩
  · rw [poI_q.1, poJ_q.1, poG_len.1, poP_prt, ← l1]
    exact po_lists rfl (by rw [ok.G.ln, l1]) ok.F.rn ok.G.rn
  · rw [poI_q.2, poJ_q.2, poG_len.2, poQ_prt, ← l2]
    exact po_lists rfl (by rw [ok.G.le, l2]) ok.F.re ok.G.re

theorem poI_nat {s : Sp} {b : Nat} (hb : b < s.B.nodes.length) : nth (poI s).nodes b = (clsN (poP s) (nth (poP s) b).toNat : Nat) := by
  show nth (thru (numL 0 s.B.nodes.length) (quotL (poP s))) b = _
  rw [thru_nth (by rw [numL_len]; exact hb), numL_nth hb, Int.toNat_natCast, Nat.zero_add, quotL_nth (by rw [poP_len]; omega)]
theorem poJ_nat {s : Sp} {c : Nat} (hc : c < s.C.nodes.length) : nth (poJ s).nodes c = (clsN (poP s) (nth (poP s) (s.B.nodes.length + c)).toNat : Nat) := by
  show nth (thru (numL s.B.nodes.length s.C.nodes.length) (quotL (poP s))) c = _
  rw [thru_nth (by rw [numL_len]; exact hc), numL_nth hc, Int.toNat_natCast, quotL_nth (by rw [poP_len]; omega)]
theorem poI_eat {s : Sp} {b : Nat} (hb : b < s.B.edges.length) : nth (poI s).edges b = (clsN (poQ s) (nth (poQ s) b).toNat : Nat) := by
  show nth (thru (numL 0 s.B.edges.length) (quotL (poQ s))) b = _
  rw [thru_nth (by rw [numL_len]; exact hb), numL_nth hb, Int.toNat_natCast, Nat.zero_add, quotL_nth (by rw [poQ_len]; omega)]
theorem poJ_eat {s : Sp} {c : Nat} (hc : c < s.C.edges.length) : nth (poJ s).edges c = (clsN (poQ s) (nth (poQ s) (s.B.edges.length + c)).toNat : Nat) := by
  show nth (thru (numL s.B.edges.length s.C.edges.length) (quotL (poQ s))) c = _
  rw [thru_nth (by rw [numL_len]; exact hc), numL_nth hc, Int.toNat_natCast, quotL_nth (by rw [poQ_len]; omega)]

theorem poG_node {s : Sp} (ok : SpOk s) {i : Nat} (hi : i < s.B.nodes.length + s.C.nodes.length) : nth (poG s).nodes (clsN (poP s) (nth (poP s) i).toNat) = nth (poU s).nodes i := by
  obtain ⟨r, h1, h2, h3⟩ := root_of (poP_flat ok) poP_len hi
  have hc := poN_const ok i (by rw [poU, unG_nlen]; exact hi)
  rw [h1, Int.toNat_natCast] at hc ⊢
  have := clsF_get (f := nth (poU s).nodes) h3 (k := (poU s).nodes.length) (by rw [poU, unG_nlen]; exact h2)
  rw [← hc]
  show ((collect (clsF (poP s) (nth (poU s).nodes)) (poU s).nodes.length).getD (clsN (poP s) r) 0) = _
  rw [List.getD, this]
  rfl
theorem poG_edge {s : Sp} (ok : SpOk s) {i : Nat} (hi : i < s.B.edges.length + s.C.edges.length) : eth (poG s).edges (clsN (poQ s) (nth (poQ s) i).toNat) = qE (poU s) (poP s) i := by
  obtain ⟨r, h1, h2, h3⟩ := root_of (poQ_flat ok) poQ_len hi
  have hc := poE_const ok i (by rw [poU, unG_elen]; exact hi)
  rw [h1, Int.toNat_natCast] at hc ⊢
  have := clsF_get (f := qE (poU s) (poP s)) h3 (k := (poU s).edges.length) (by rw [poU, unG_elen]; exact h2)
  rw [← hc]
  show ((collect (clsF (poQ s) (qE (poU s) (poP s))) (poU s).edges.length).getD (clsN (poQ s) r) ⟨0, 0, 0⟩) = _
  rw [List.getD, this]
  rfl

theorem poI_hom {s : Sp} (ok : SpOk s) : Hom s.B (poG s) (poI s) := by
  refine ⟨poI_len.1, poI_len.2, poI_nin ok, poI_ein ok, fun i hi => ?_, fun i hi => ?_⟩
  · rw [fn, poI_nat hi, Int.toNat_natCast, poG_node ok (by omega), poU_nL hi]
  · rw [fn, poI_eat hi, Int.toNat_natCast, poG_edge ok (by omega), qE, poU_eL hi]
    obtain ⟨_, _, g1, g2, g3, g4⟩ := ok.F.gb.edges _ (eth_mem hi)
    have l := poP_len (s := s)
    rw [poI_nat (by omega), poI_nat (by omega), quotL_nth (by omega), quotL_nth (by omega)]
    exact ⟨rfl, rfl, rfl⟩
theorem poJ_hom {s : Sp} (ok : SpOk s) : Hom s.C (poG s) (poJ s) := by
  refine ⟨poJ_len.1, poJ_len.2, poJ_nin ok, poJ_ein ok, fun i hi => ?_, fun i hi => ?_⟩
  · rw [fn, poJ_nat hi, Int.toNat_natCast, poG_node ok (by omega), poU_nR hi]
  · rw [fn, poJ_eat hi, Int.toNat_natCast, poG_edge ok (by omega), qE, poU_eR hi]
    obtain ⟨_, _, g1, g2, g3, g4⟩ := ok.G.gb.edges _ (eth_mem hi)
    have l := poP_len (s := s)
    obtain ⟨x, hx⟩ := Int.eq_ofNat_of_zero_le g1
    obtain ⟨y, hy⟩ := Int.eq_ofNat_of_zero_le g3
    have z1 : ((x : Int) + s.B.nodes.length).toNat = s.B.nodes.length + x := by omega
    have z2 : ((y : Int) + s.B.nodes.length).toNat = s.B.nodes.length + y := by omega
    simp only [shiftE, hx, hy, Int.toNat_natCast, z1, z2]
    rw [poJ_nat (by omega), poJ_nat (by omega), quotL_nth (by omega), quotL_nth (by omega)]
    refine ⟨?_, ?_, ?_⟩ <;> first | rfl | trivial
theorem poG_ok {s : Sp} (ok : SpOk s) (hu : unErr s.B s.C = 0) : GrOk (poG s) := by
  have hf := poG_few hu
  have po := po_std ok
  have hi := poI_hom ok
  have hj := poJ_hom ok
  refine ⟨hf.1, hf.2, fun x hx => ?_, fun e he => ?_⟩
  · obtain ⟨d, hd, rfl⟩ := mem_nth hx
    rcases po.1.cover d hd with ⟨b, hb, rfl⟩ | ⟨c, hc, rfl⟩
    · rw [hi.kn b hb]; exact ok.F.gb.kinds _ (nth_mem hb)
    · rw [hj.kn c hc]; exact ok.G.gb.kinds _ (nth_mem hc)
  · obtain ⟨d, hd, rfl⟩ := mem_eth he
    rcases po.2.cover d hd with ⟨b, hb, rfl⟩ | ⟨c, hc, rfl⟩
    · obtain ⟨e1, e2, e3⟩ := hi.ke b hb
      obtain ⟨t1, t2, g1, g2, g3, g4⟩ := ok.F.gb.edges _ (eth_mem hb)
      have l := hi.ln
      have p1 := hi.pn _ (nth_mem (l := (poI s).nodes) (k := (eth s.B.edges b).f.toNat) (by omega))
      have p2 := hi.pn _ (nth_mem (l := (poI s).nodes) (k := (eth s.B.edges b).g.toNat) (by omega))
      rw [e1, e2, e3]
      exact ⟨t1, t2, p1.1, p1.2, p2.1, p2.2⟩
    · obtain ⟨e1, e2, e3⟩ := hj.ke c hc
      obtain ⟨t1, t2, g1, g2, g3, g4⟩ := ok.G.gb.edges _ (eth_mem hc)
      have l := hj.ln
      have p1 := hj.pn _ (nth_mem (l := (poJ s).nodes) (k := (eth s.C.edges c).f.toNat) (by omega))
      have p2 := hj.pn _ (nth_mem (l := (poJ s).nodes) (k := (eth s.C.edges c).g.toNat) (by omega))
      rw [e1, e2, e3]
      exact ⟨t1, t2, p1.1, p1.2, p2.1, p2.2⟩

/-! ### What mediates -/
theorem zip_mem {p h : List Int} (hl : p.length = h.length) {w : Int × Int} : w ∈ p.zip h ↔ ∃ i, i < p.length ∧ w = (nth p i, nth h i) := by
  constructor
  · intro hw
    obtain ⟨i, hi, rfl⟩ := List.mem_iff_getElem.1 hw
    simp only [List.length_zip] at hi
    exact ⟨i, by omega, by rw [List.getElem_zip, nth_eq (by omega), nth_eq (by omega)]⟩
  · rintro ⟨i, hi, rfl⟩
    refine List.mem_iff_getElem.2 ⟨i, by simp; omega, ?_⟩
    rw [List.getElem_zip, nth_eq hi, nth_eq (by omega)]
theorem med_lists {n m nB nC : Nat} {p q h k : List Int} (lp : p.length = nB) (lq : q.length = nC) (lh : h.length = nB) (lk : k.length = nC) (pp : placesIn p n) (pq : placesIn q n) (ph : placesIn h m) (pk : placesIn k m)
    {u : Nat → Nat} (hu : ∀ b, b < nB → u (fn p b) = fn h b) (hv : ∀ c, c < nC → u (fn q c) = fn k c) :
    (∀ b, b < nB → nth (wrL n (p.zip h ++ q.zip k)) (fn p b) = nth h b) ∧ (∀ c, c < nC → nth (wrL n (p.zip h ++ q.zip k)) (fn q c) = nth k c) := by
  have key : ∀ w ∈ p.zip h ++ q.zip k, 0 ≤ w.1 ∧ w.1 < n ∧ w.2 = ((u w.1.toNat : Nat) : Int) := fun w hw => by
    rcases List.mem_append.1 hw with hw | hw
    · obtain ⟨i, hi, rfl⟩ := (zip_mem (by omega)).1 hw
      have h1 := pp _ (nth_mem hi)
      obtain ⟨h2, _⟩ := fn_at ph (show i < h.length by omega)
      exact ⟨h1.1, h1.2, by rw [h2, ← hu i (by omega)]; rfl⟩
    · obtain ⟨i, hi, rfl⟩ := (zip_mem (by omega)).1 hw
      have h1 := pq _ (nth_mem hi)
      obtain ⟨h2, _⟩ := fn_at pk (show i < k.length by omega)
      exact ⟨h1.1, h1.2, by rw [h2, ← hv i (by omega)]; rfl⟩
  refine ⟨fun b hb => ?_, fun c hc => ?_⟩
  · exact wrL_at (u := fun i => (u i : Nat)) key (w := (nth p b, nth h b)) (List.mem_append_left _ ((zip_mem (by omega)).2 ⟨b, by omega, rfl⟩))
  · exact wrL_at (u := fun i => (u i : Nat)) key (w := (nth q c, nth k c)) (List.mem_append_right _ ((zip_mem (by omega)).2 ⟨c, by omega, rfl⟩))

theorem same_thru {a b f g : List Int} (h : thru a f = thru b g) {i : Nat} (ha : i < a.length) (hb : i < b.length) : fn f (fn a i) = fn g (fn b i) := by
  have := congrArg (fun l => (nth l i).toNat) h
  simp only [thru_nth ha, thru_nth hb] at this
  exact this

/-- A cocone: valid morphisms with equal compositions. -/
structure Cone (s : Sp) (d : Gr) (h k : Pa) : Prop where
  ok : SpOk s
  mp : MorOk s.B d h
  mq : MorOk s.C d k
  un : unErr s.B s.C = 0
  cn : ∀ i, i < s.A.nodes.length → fn h.nodes (fn s.F.nodes i) = fn k.nodes (fn s.G.nodes i)
  ce : ∀ i, i < s.A.edges.length → fn h.edges (fn s.F.edges i) = fn k.edges (fn s.G.edges i)
theorem pm_cone {s : Sp} {d : Gr} {h k : Pa} (e : pmE s d h k = 0) : Cone s d h k := by
  obtain ⟨h1, h2, h3, h4, h5⟩ := pmE_ok e
  have ok := spErr_ok h1
  have l1 := ok.F.ln
  have l2 := ok.F.le
  have l3 := ok.G.ln
  have l4 := ok.G.le
  have h6 := sameP_iff.1 h5
  injection h6 with h6 h7
  exact ⟨ok, mor_ok h2, mor_ok h3, h4, fun i hi => same_thru h6 (by omega) (by omega), fun i hi => same_thru h7 (by omega) (by omega)⟩

theorem pm_at {s : Sp} {d : Gr} {h k : Pa} (c : Cone s d h k) :
    ((∀ b, b < s.B.nodes.length → nth (pmC s h k).nodes (fn (poI s).nodes b) = nth h.nodes b) ∧ (∀ b, b < s.C.nodes.length → nth (pmC s h k).nodes (fn (poJ s).nodes b) = nth k.nodes b)) ∧
    ((∀ b, b < s.B.edges.length → nth (pmC s h k).edges (fn (poI s).edges b) = nth h.edges b) ∧ (∀ b, b < s.C.edges.length → nth (pmC s h k).edges (fn (poJ s).edges b) = nth k.edges b)) := by
  have po := po_std c.ok
  have hi := poI_hom c.ok
  have hj := poJ_hom c.ok
  obtain ⟨u, u1, u2⟩ := po.1.univ (fn h.nodes) (fn k.nodes) c.cn
  obtain ⟨v, v1, v2⟩ := po.2.univ (fn h.edges) (fn k.edges) c.ce
  exact ⟨med_lists hi.ln hj.ln c.mp.ln c.mq.ln hi.pn hj.pn c.mp.rn c.mq.rn u1 u2, med_lists hi.le hj.le c.mp.le c.mq.le hi.pe hj.pe c.mp.re c.mq.re v1 v2⟩
theorem pmC_len {s : Sp} {h k : Pa} : (pmC s h k).nodes.length = (poG s).nodes.length ∧ (pmC s h k).edges.length = (poG s).edges.length := ⟨wrL_len, wrL_len⟩
theorem pm_hom {s : Sp} {d : Gr} {h k : Pa} (c : Cone s d h k) : Hom (poG s) d (pmC s h k) := by
  have po := po_std c.ok
  have hi := poI_hom c.ok
  have hj := poJ_hom c.ok
  obtain ⟨⟨n1, n2⟩, e1, e2⟩ := pm_at c
  have hh := c.mp.hom
  have hk := c.mq.hom
  refine ⟨pmC_len.1, pmC_len.2, fun x hx => ?_, fun x hx => ?_, fun i hi' => ?_, fun i hi' => ?_⟩
  · obtain ⟨i, hi', rfl⟩ := mem_nth hx
    rw [pmC_len.1] at hi'
    rcases po.1.cover i hi' with ⟨b, hb, rfl⟩ | ⟨b, hb, rfl⟩
    · rw [n1 b hb]; exact hh.pn _ (nth_mem (by rw [hh.ln]; exact hb))
    · rw [n2 b hb]; exact hk.pn _ (nth_mem (by rw [hk.ln]; exact hb))
  · obtain ⟨i, hi', rfl⟩ := mem_nth hx
    rw [pmC_len.2] at hi'
    rcases po.2.cover i hi' with ⟨b, hb, rfl⟩ | ⟨b, hb, rfl⟩
    · rw [e1 b hb]; exact hh.pe _ (nth_mem (by rw [hh.le]; exact hb))
    · rw [e2 b hb]; exact hk.pe _ (nth_mem (by rw [hk.le]; exact hb))
  · rcases po.1.cover i hi' with ⟨b, hb, rfl⟩ | ⟨b, hb, rfl⟩
    · rw [fn, n1 b hb, hi.kn b hb]; exact hh.kn b hb
    · rw [fn, n2 b hb, hj.kn b hb]; exact hk.kn b hb
  · rcases po.2.cover i hi' with ⟨b, hb, rfl⟩ | ⟨b, hb, rfl⟩
    · obtain ⟨a1, a2, a3⟩ := hi.ke b hb
      obtain ⟨b1, b2, b3⟩ := hh.ke b hb
      obtain ⟨_, _, g1, g2, g3, g4⟩ := c.ok.F.gb.edges _ (eth_mem hb)
      have m1 := n1 (eth s.B.edges b).f.toNat (by omega)
      have m2 := n1 (eth s.B.edges b).g.toNat (by omega)
      rw [fn] at m1 m2
      rw [fn, e1 b hb, a1, a2, a3, m1, m2]
      exact ⟨b1, b2, b3⟩
    · obtain ⟨a1, a2, a3⟩ := hj.ke b hb
      obtain ⟨b1, b2, b3⟩ := hk.ke b hb
      obtain ⟨_, _, g1, g2, g3, g4⟩ := c.ok.G.gb.edges _ (eth_mem hb)
      have m1 := n2 (eth s.C.edges b).f.toNat (by omega)
      have m2 := n2 (eth s.C.edges b).g.toNat (by omega)
      rw [fn] at m1 m2
      rw [fn, e2 b hb, a1, a2, a3, m1, m2]
      exact ⟨b1, b2, b3⟩

/-! ### One to one and onto -/
theorem nodup_fn {l : List Int} {n m : Nat} (hl : l.length = n) (pl : placesIn l m) : l.Nodup ↔ ∀ i j, i < n → j < n → fn l i = fn l j → i = j := by
  rw [List.nodup_iff_pairwise_ne, List.pairwise_iff_getElem]
  constructor
  · intro h i j hi hj e
    have e2 : l[i]'(by omega) = l[j]'(by omega) := by
      rw [← nth_eq, ← nth_eq, (fn_at pl (show i < l.length by omega)).1, (fn_at pl (show j < l.length by omega)).1, e]
    rcases Nat.lt_trichotomy i j with h3 | h3 | h3
    · exact absurd e2 (h i j _ _ h3)
    · exact h3
    · exact absurd e2.symm (h j i _ _ h3)
  · intro h i j hi hj hij e
    have := h i j (by omega) (by omega) (by rw [fn, fn, nth_eq hi, nth_eq hj, e])
    omega
theorem cov_fn {l : List Int} {n m : Nat} (hl : l.length = n) (pl : placesIn l m) : covB l m = true ↔ ∀ d, d < m → ∃ i, i < n ∧ fn l i = d := by
  simp only [covB, decide_eq_true_eq]
  refine forall_congr' fun d => imp_congr_right fun hd => ?_
  constructor
  · intro h
    obtain ⟨i, hi, e⟩ := mem_nth h
    exact ⟨i, by omega, by rw [fn, e]; rfl⟩
  · rintro ⟨i, hi, rfl⟩
    rw [← (fn_at pl (show i < l.length by omega)).1]
    exact nth_mem (by omega)

/-- A cocone is accepted exactly if it is a pushout. -/
theorem poChk_iff {s : Sp} {d : Gr} {h k : Pa} (e : pmE s d h k = 0) : poChk s d h k = true ↔ IsPO s d h k := by
  have c := pm_cone e
  have po := po_std c.ok
  have hm := pm_hom c
  have hi := poI_hom c.ok
  have hj := poJ_hom c.ok
  have em := mor_zero (hm.ok (poG_ok c.ok c.un) c.mp.gb)
  obtain ⟨⟨n1, n2⟩, e1, e2⟩ := pm_at c
  have z1 : ∀ b, b < s.B.nodes.length → fn (pmC s h k).nodes (fn (poI s).nodes b) = fn h.nodes b := fun b hb => by rw [fn, n1 b hb]; rfl
  have z2 : ∀ b, b < s.C.nodes.length → fn (pmC s h k).nodes (fn (poJ s).nodes b) = fn k.nodes b := fun b hb => by rw [fn, n2 b hb]; rfl
  have z3 : ∀ b, b < s.B.edges.length → fn (pmC s h k).edges (fn (poI s).edges b) = fn h.edges b := fun b hb => by rw [fn, e1 b hb]; rfl
  have z4 : ∀ b, b < s.C.edges.length → fn (pmC s h k).edges (fn (poJ s).edges b) = fn k.edges b := fun b hb => by rw [fn, e2 b hb]; rfl
  have key : poChk s d h k = true ↔ (((pmC s h k).nodes.Nodup ∧ (pmC s h k).edges.Nodup) ∧ (covB (pmC s h k).nodes d.nodes.length = true ∧ covB (pmC s h k).edges d.edges.length = true)) := by
    simp [poChk, e, injB, surjB, em]
  rw [key, nodup_fn hm.ln hm.pn, nodup_fn hm.le hm.pe, cov_fn hm.ln hm.pn, cov_fn hm.le hm.pe]
  constructor
  · rintro ⟨⟨a1, a2⟩, b1, b2⟩
    exact ⟨po_of_iso po.1 hi.mn hj.mn z1 z2 c.ok.F.hom.mn c.ok.G.hom.mn a1 b1, po_of_iso po.2 hi.me hj.me z3 z4 c.ok.F.hom.me c.ok.G.hom.me a2 b2⟩
  · rintro ⟨p1, p2⟩
    obtain ⟨a1, b1⟩ := po_iso p1 po.1 hi.mn hj.mn z1 z2
    obtain ⟨a2, b2⟩ := po_iso p2 po.2 hi.me hj.me z3 z4
    exact ⟨⟨a1, a2⟩, b1, b2⟩
end Go.Proofs.Ythapbbpdcjmmfaa

/- The standard pullback of graphs; what mediates into it; when a cone is a pullback. No program in sight. -/
namespace Go.Proofs.Ythapbbpdcjmmfaa
open Abs Po
set_option linter.unusedSimpArgs false
set_option linter.unusedVariables false

theorem collect_pb_nodup {f g : List Int} {i : Nat} : ∀ n, (collect (pbF f g i) n).Nodup ∧ ∀ q ∈ collect (pbF f g i) n, q.1 = i ∧ q.2 < n
  | 0 => ⟨List.nodup_nil, fun q hq => by simp [collect_zero] at hq⟩
  | n + 1 => by
    obtain ⟨h1, h2⟩ := collect_pb_nodup (f := f) (g := g) (i := i) n
    by_cases e : nth f i = nth g n
    · rw [collect_some (x := ((i : Int), (n : Int))) (by rw [pbF, if_pos e])]
      refine ⟨List.nodup_append.2 ⟨h1, by simp, fun a ha b hb => ?_⟩, fun q hq => ?_⟩
      · simp at hb
        subst hb
        rintro rfl
        have := (h2 _ ha).2
        simp at this
      · rcases List.mem_append.1 hq with hq | hq
        · have := h2 q hq
          exact ⟨this.1, by omega⟩
        · simp at hq
          subst hq
          exact ⟨rfl, by show (n : Int) < (n + 1 : Nat); omega⟩
    · rw [collect_none (by rw [pbF, if_neg e])]
      exact ⟨h1, fun q hq => ⟨(h2 q hq).1, by have := (h2 q hq).2; omega⟩⟩
theorem gather_pb_nodup {f g : List Int} : ∀ n, (gather (fun i => collect (pbF f g i) g.length) n).Nodup ∧ ∀ q ∈ gather (fun i => collect (pbF f g i) g.length) n, q.1 < n
  | 0 => ⟨List.nodup_nil, fun q hq => by simp [gather_zero] at hq⟩
  | n + 1 => by
    obtain ⟨h1, h2⟩ := gather_pb_nodup (f := f) (g := g) n
    obtain ⟨k1, k2⟩ := collect_pb_nodup (f := f) (g := g) (i := n) g.length
    rw [gather_succ]
    refine ⟨List.nodup_append.2 ⟨h1, k1, fun a ha b hb => ?_⟩, fun q hq => ?_⟩
    · rintro rfl
      have e1 := h2 _ ha
      have e2 := (k2 _ hb).1
      omega
    · rcases List.mem_append.1 hq with hq | hq
      · have := h2 q hq
        omega
      · have := (k2 q hq).1
        omega
theorem pbP_nodup {f g : List Int} : (pbP f g).Nodup := (gather_pb_nodup f.length).1
theorem pth_inj {l : List (Int × Int)} (h : l.Nodup) {i j : Nat} (hi : i < l.length) (hj : j < l.length) (e : pth l i = pth l j) : i = j := by
  rw [List.nodup_iff_pairwise_ne, List.pairwise_iff_getElem] at h
  rw [pth_eq' hi, pth_eq' hj] at e
  rcases Nat.lt_trichotomy i j with h3 | h3 | h3
  · exact absurd e (h i j hi hj h3)
  · exact h3
  · exact absurd e.symm (h j i hj hi h3)
theorem nth_fst {l : List (Int × Int)} {i : Nat} (h : i < l.length) : nth (fstL l) i = (pth l i).1 := by
  rw [nth_eq (by rw [fstL_len]; exact h), pth_eq' h]; simp [fstL]
theorem nth_snd {l : List (Int × Int)} {i : Nat} (h : i < l.length) : nth (sndL l) i = (pth l i).2 := by
  rw [nth_eq (by rw [sndL_len]; exact h), pth_eq' h]; simp [sndL]

/-- The standard pullback of lists of numbers is one. -/
theorem pb_lists {nB nC m : Nat} {F G : List Int} (lF : F.length = nB) (lG : G.length = nC) (pF : placesIn F m) (pG : placesIn G m) :
    PB (pbP F G).length nB nC (fn (fstL (pbP F G))) (fn (sndL (pbP F G))) (fn F) (fn G) := by
  have at_ : ∀ a, a < (pbP F G).length → ∃ i k : Nat, i < nB ∧ k < nC ∧ nth F i = nth G k ∧ fn (fstL (pbP F G)) a = i ∧ fn (sndL (pbP F G)) a = k ∧ pth (pbP F G) a = ((i : Int), (k : Int)) := fun a ha => by
    obtain ⟨i, k, h1, h2, h3, h4⟩ := mem_pbP.1 (pth_mem ha)
    exact ⟨i, k, by omega, by omega, h3, by rw [fn, nth_fst ha, h4]; rfl, by rw [fn, nth_snd ha, h4]; rfl, h4⟩
  refine ⟨fun a ha => ?_, fun b c hb hc e => ?_, fun a a' ha ha' e1 e2 => ?_⟩
  · obtain ⟨i, k, h1, h2, h3, h4, h5, _⟩ := at_ a ha
    rw [h4, h5, fn, fn, h3]
  · have hm : ((b : Int), (c : Int)) ∈ pbP F G := mem_pbP.2 ⟨b, c, by omega, by omega, by rw [(fn_at pF (show b < F.length by omega)).1, (fn_at pG (show c < G.length by omega)).1, e], rfl⟩
    have h1 := idxP_lt hm
    have h0 := idxP_pos.2 hm
    have h2 := idxP_get hm
    have hl : (idxP (pbP F G) ((b : Int), (c : Int))).toNat < (pbP F G).length := by omega
    exact ⟨_, hl, by rw [fn, nth_fst hl, h2]; rfl, by rw [fn, nth_snd hl, h2]; rfl⟩
  · obtain ⟨i, k, h1, h2, h3, h4, h5, h6⟩ := at_ a ha
    obtain ⟨i', k', h1', h2', h3', h4', h5', h6'⟩ := at_ a' ha'
    refine pth_inj pbP_nodup ha ha' ?_
    rw [h6, h6', ← h4, ← h4', ← h5, ← h5', e1, e2]

/-- The two squares of functions of a cospan with a cone are pullbacks. -/
def IsPB (s : Co) (a : Gr) (h k : Pa) : Prop :=
  PB a.nodes.length s.B.nodes.length s.C.nodes.length (fn h.nodes) (fn k.nodes) (fn s.F.nodes) (fn s.G.nodes) ∧
  PB a.edges.length s.B.edges.length s.C.edges.length (fn h.edges) (fn k.edges) (fn s.F.edges) (fn s.G.edges)

theorem pbG_len {s : Co} : (pbG s).nodes.length = (pbNs s).length ∧ (pbG s).edges.length = (pbEs s).length := by simp [pbG]
theorem pbG_nth {s : Co} {i : Nat} (h : i < (pbNs s).length) : nth (pbG s).nodes i = pbNode s (pth (pbNs s) i) := by
  rw [nth_eq (by rw [pbG_len.1]; exact h), pth_eq' h]; simp [pbG]
theorem pbG_eth {s : Co} {i : Nat} (h : i < (pbEs s).length) : eth (pbG s).edges i = pbEdge s (pth (pbEs s) i) := by
  rw [eth_eq (by rw [pbG_len.2]; exact h), pth_eq' h]; simp [pbG]

def pbDown (c : Co) : Pa := ⟨fstL (pbNs c), fstL (pbEs c)⟩
def pbUpp (c : Co) : Pa := ⟨sndL (pbNs c), sndL (pbEs c)⟩
/-- The standard pullback is one. -/
theorem pb_std {s : Co} (ok : CoOk s) : IsPB s (pbG s) (pbDown s) (pbUpp s) := by
  refine ⟨?_, ?_⟩
  · rw [pbG_len.1]; exact pb_lists ok.F.ln ok.G.ln ok.F.rn ok.G.rn
  · rw [pbG_len.2]; exact pb_lists ok.F.le ok.G.le ok.F.re ok.G.re

/-- The ends of a pair of edges are pairs of nodes. -/
theorem pb_ends {s : Co} (ok : CoOk s) {i k : Nat} (hi : i < s.B.edges.length) (hk : k < s.C.edges.length) (e : nth s.F.edges i = nth s.G.edges k) :
    ((eth s.B.edges i).f, (eth s.C.edges k).f) ∈ pbNs s ∧ ((eth s.B.edges i).g, (eth s.C.edges k).g) ∈ pbNs s := by
  obtain ⟨_, _, t1, u1, v1⟩ := ok.F.e i hi
  obtain ⟨_, _, t2, u2, v2⟩ := ok.G.e k hk
  rw [e] at u1 v1
  obtain ⟨_, _, g1, g2, g3, g4⟩ := ok.F.ga.edges _ (eth_mem hi)
  obtain ⟨_, _, p1, p2, p3, p4⟩ := ok.G.ga.edges _ (eth_mem hk)
  have l1 := ok.F.ln
  have l2 := ok.G.ln
  exact ⟨mem_pbP.2 ⟨(eth s.B.edges i).f.toNat, (eth s.C.edges k).f.toNat, by omega, by omega, by rw [u1, u2], by rw [Int.toNat_of_nonneg g1, Int.toNat_of_nonneg p1]⟩,
    mem_pbP.2 ⟨(eth s.B.edges i).g.toNat, (eth s.C.edges k).g.toNat, by omega, by omega, by rw [v1, v2], by rw [Int.toNat_of_nonneg g3, Int.toNat_of_nonneg p3]⟩⟩

theorem pbG_ok {s : Co} (h : pbErr s = 0) : GrOk (pbG s) := by
  obtain ⟨ok, h1, h2⟩ := pbErr_few h
  refine ⟨by rw [pbG_len.1]; exact h1, by rw [pbG_len.2]; exact h2, fun x hx => ?_, fun e he => ?_⟩
  · obtain ⟨d, hd, rfl⟩ := mem_nth hx
    rw [pbG_len.1] at hd
    obtain ⟨i, k, hi, hk, e⟩ := pbNs_at ok (pth_mem hd)
    rw [pbG_nth hd, e, pbNode]
    exact ok.F.ga.kinds _ (nth_mem hi)
  · obtain ⟨d, hd, rfl⟩ := mem_eth he
    rw [pbG_len.2] at hd
    obtain ⟨i, k, hi, hk, h3, e⟩ := mem_pbP.1 (pth_mem (show d < (pbP s.F.edges s.G.edges).length from hd))
    have e : pth (pbEs s) d = ((i : Int), (k : Int)) := e
    rw [ok.F.le] at hi
    rw [ok.G.le] at hk
    obtain ⟨m1, m2⟩ := pb_ends ok hi hk h3
    obtain ⟨t1, t2, _⟩ := ok.F.ga.edges _ (eth_mem hi)
    have a1 := idxP_pos.2 m1
    have a2 := idxP_lt m1
    have a3 := idxP_pos.2 m2
    have a4 := idxP_lt m2
    rw [pbG_eth hd, e, pbEdge, pbG_len.1]
    exact ⟨t1, t2, a1, a2, a3, a4⟩
theorem pbDown_hom {s : Co} (ok : CoOk s) : Hom (pbG s) s.B (pbDown s) := by
  refine ⟨by rw [pbG_len.1]; exact fstL_len, by rw [pbG_len.2]; exact fstL_len, fun x hx => ?_, fun x hx => ?_, fun i hi => ?_, fun i hi => ?_⟩
  · obtain ⟨q, hq, rfl⟩ := List.mem_map.1 hx
    obtain ⟨i, k, hi, hk, rfl⟩ := pbNs_at ok hq
    exact ⟨by simp, by simpa using hi⟩
  · obtain ⟨q, hq, rfl⟩ := List.mem_map.1 hx
    obtain ⟨i, k, hi, hk, rfl⟩ := pbEs_at ok hq
    exact ⟨by simp, by simpa using hi⟩
  · rw [pbG_len.1] at hi
    rw [pbG_nth hi, pbNode, fn, pbDown, nth_fst hi]
  · rw [pbG_len.2] at hi
    obtain ⟨a, b, ha, hb, h3, e⟩ := mem_pbP.1 (pth_mem (show i < (pbP s.F.edges s.G.edges).length from hi))
    have e : pth (pbEs s) i = ((a : Int), (b : Int)) := e
    rw [ok.F.le] at ha
    rw [ok.G.le] at hb
    obtain ⟨m1, m2⟩ := pb_ends ok ha hb h3
    have a1 := idxP_pos.2 m1
    have a2 := idxP_lt m1
    have a3 := idxP_pos.2 m2
    have a4 := idxP_lt m2
    have q1 := idxP_get m1
    have q2 := idxP_get m2
    rw [pbG_eth hi, e, pbEdge, fn, pbDown, nth_fst hi, e]
    simp only [Int.toNat_natCast]
    rw [nth_fst (by omega), nth_fst (by omega), q1, q2]
    refine ⟨?_, ?_, ?_⟩ <;> first | rfl | trivial
theorem pbUpp_hom {s : Co} (ok : CoOk s) : Hom (pbG s) s.C (pbUpp s) := by
  refine ⟨by rw [pbG_len.1]; exact sndL_len, by rw [pbG_len.2]; exact sndL_len, fun x hx => ?_, fun x hx => ?_, fun i hi => ?_, fun i hi => ?_⟩
  · obtain ⟨q, hq, rfl⟩ := List.mem_map.1 hx
    obtain ⟨i, k, hi, hk, rfl⟩ := pbNs_at ok hq
    exact ⟨by simp, by simpa using hk⟩
  · obtain ⟨q, hq, rfl⟩ := List.mem_map.1 hx
    obtain ⟨i, k, hi, hk, rfl⟩ := pbEs_at ok hq
    exact ⟨by simp, by simpa using hk⟩
  · rw [pbG_len.1] at hi
    obtain ⟨a, b, ha, hb, h3, e⟩ := mem_pbP.1 (pth_mem (show i < (pbP s.F.nodes s.G.nodes).length from hi))
    have e : pth (pbNs s) i = ((a : Int), (b : Int)) := e
    rw [ok.F.ln] at ha
    rw [ok.G.ln] at hb
    have k1 := (ok.F.n a ha).2.2
    have k2 := (ok.G.n b hb).2.2
    rw [pbG_nth hi, pbNode, fn, pbUpp, nth_snd hi, e]
    simp only [Int.toNat_natCast]
    rw [← k1, ← k2, h3]
  · rw [pbG_len.2] at hi
    obtain ⟨a, b, ha, hb, h3, e⟩ := mem_pbP.1 (pth_mem (show i < (pbP s.F.edges s.G.edges).length from hi))
    have e : pth (pbEs s) i = ((a : Int), (b : Int)) := e
    rw [ok.F.le] at ha
    rw [ok.G.le] at hb
    obtain ⟨m1, m2⟩ := pb_ends ok ha hb h3
    have a1 := idxP_pos.2 m1
    have a2 := idxP_lt m1
    have a3 := idxP_pos.2 m2
    have a4 := idxP_lt m2
    have q1 := idxP_get m1
    have q2 := idxP_get m2
    have k1 := (ok.F.e a ha).2.2.1
    have k2 := (ok.G.e b hb).2.2.1
    rw [h3] at k1
    rw [pbG_eth hi, e, pbEdge, fn, pbUpp, nth_snd hi, e]
    simp only [Int.toNat_natCast]
    rw [nth_snd (by omega), nth_snd (by omega), q1, q2, k1, k2]
    refine ⟨?_, ?_, ?_⟩ <;> first | rfl | trivial

/-! ### What mediates -/
structure Cone' (s : Co) (a : Gr) (h k : Pa) : Prop where
  e : pbErr s = 0
  ok : CoOk s
  mp : MorOk a s.B h
  mq : MorOk a s.C k
  cn : ∀ i, i < a.nodes.length → fn s.F.nodes (fn h.nodes i) = fn s.G.nodes (fn k.nodes i)
  ce : ∀ i, i < a.edges.length → fn s.F.edges (fn h.edges i) = fn s.G.edges (fn k.edges i)
theorem med_cone {s : Co} {a : Gr} {h k : Pa} (e : medE s a h k = 0) : Cone' s a h k := by
  obtain ⟨h1, h2, h3, h5⟩ := medE_ok e
  have ok := (pbErr_few h1).1
  have m1 := mor_ok h2
  have m2 := mor_ok h3
  have l1 := m1.ln
  have l2 := m1.le
  have l3 := m2.ln
  have l4 := m2.le
  have h6 := sameP_iff.1 h5
  injection h6 with h6 h7
  exact ⟨h1, ok, m1, m2, fun i hi => same_thru h6 (by omega) (by omega), fun i hi => same_thru h7 (by omega) (by omega)⟩
theorem meet_nth {l : List (Int × Int)} {h k : List Int} {n i : Nat} (hi : i < n) : nth (meetL l h k n) i = idxP l (nth h i, nth k i) := by
  rw [nth_eq (by rw [meetL_len]; exact hi)]; simp [meetL]
theorem med_memN {s : Co} {a : Gr} {h k : Pa} (c : Cone' s a h k) {i : Nat} (hi : i < a.nodes.length) : (nth h.nodes i, nth k.nodes i) ∈ pbNs s := by
  obtain ⟨e1, b1⟩ := fn_at c.mp.rn (show i < h.nodes.length by rw [c.mp.ln]; exact hi)
  obtain ⟨e2, b2⟩ := fn_at c.mq.rn (show i < k.nodes.length by rw [c.mq.ln]; exact hi)
  have l1 := c.ok.F.ln
  have l2 := c.ok.G.ln
  refine mem_pbP.2 ⟨fn h.nodes i, fn k.nodes i, by omega, by omega, ?_, by rw [e1, e2]⟩
  rw [(fn_at c.ok.F.rn (by omega)).1, (fn_at c.ok.G.rn (by omega)).1, c.cn i hi]
theorem med_memE {s : Co} {a : Gr} {h k : Pa} (c : Cone' s a h k) {i : Nat} (hi : i < a.edges.length) : (nth h.edges i, nth k.edges i) ∈ pbEs s := by
  obtain ⟨e1, b1⟩ := fn_at c.mp.re (show i < h.edges.length by rw [c.mp.le]; exact hi)
  obtain ⟨e2, b2⟩ := fn_at c.mq.re (show i < k.edges.length by rw [c.mq.le]; exact hi)
  have l1 := c.ok.F.le
  have l2 := c.ok.G.le
  refine mem_pbP.2 ⟨fn h.edges i, fn k.edges i, by omega, by omega, ?_, by rw [e1, e2]⟩
  rw [(fn_at c.ok.F.re (by omega)).1, (fn_at c.ok.G.re (by omega)).1, c.ce i hi]
theorem med_n {s : Co} {a : Gr} {h k : Pa} (c : Cone' s a h k) {i : Nat} (hi : i < a.nodes.length) :
    nth (medC s h k).nodes i = idxP (pbNs s) (nth h.nodes i, nth k.nodes i) ∧ nth (pbDown s).nodes (fn (medC s h k).nodes i) = nth h.nodes i ∧ nth (pbUpp s).nodes (fn (medC s h k).nodes i) = nth k.nodes i := by
  have hm := med_memN c hi
  have h1 := idxP_lt hm
  have h0 := idxP_pos.2 hm
  have h2 := idxP_get hm
  have e : nth (medC s h k).nodes i = idxP (pbNs s) (nth h.nodes i, nth k.nodes i) := meet_nth (by rw [c.mp.ln]; exact hi)
  refine ⟨e, ?_, ?_⟩
  · rw [fn, e, pbDown, nth_fst (by omega), h2]
  · rw [fn, e, pbUpp, nth_snd (by omega), h2]
theorem med_e {s : Co} {a : Gr} {h k : Pa} (c : Cone' s a h k) {i : Nat} (hi : i < a.edges.length) :
    nth (medC s h k).edges i = idxP (pbEs s) (nth h.edges i, nth k.edges i) ∧ nth (pbDown s).edges (fn (medC s h k).edges i) = nth h.edges i ∧ nth (pbUpp s).edges (fn (medC s h k).edges i) = nth k.edges i := by
  have hm := med_memE c hi
  have h1 := idxP_lt hm
  have h0 := idxP_pos.2 hm
  have h2 := idxP_get hm
  have e : nth (medC s h k).edges i = idxP (pbEs s) (nth h.edges i, nth k.edges i) := meet_nth (by rw [c.mp.le]; exact hi)
  refine ⟨e, ?_, ?_⟩
  · rw [fn, e, pbDown, nth_fst (by omega), h2]
  · rw [fn, e, pbUpp, nth_snd (by omega), h2]
theorem med_hom {s : Co} {a : Gr} {h k : Pa} (c : Cone' s a h k) : Hom a (pbG s) (medC s h k) := by
  have l1 : (medC s h k).nodes.length = a.nodes.length := by simp only [medC, meetL_len, c.mp.ln]
  have l2 : (medC s h k).edges.length = a.edges.length := by simp only [medC, meetL_len, c.mp.le]
  have pd := pbDown_hom c.ok
  refine ⟨l1, l2, fun x hx => ?_, fun x hx => ?_, fun i hi => ?_, fun i hi => ?_⟩
  · obtain ⟨i, hi, rfl⟩ := mem_nth hx
    rw [l1] at hi
    have hm := med_memN c hi
    have h1 := idxP_lt hm
    have h0 := idxP_pos.2 hm
    rw [(med_n c hi).1, pbG_len.1]
    exact ⟨h0, h1⟩
  · obtain ⟨i, hi, rfl⟩ := mem_nth hx
    rw [l2] at hi
    have hm := med_memE c hi
    have h1 := idxP_lt hm
    have h0 := idxP_pos.2 hm
    rw [(med_e c hi).1, pbG_len.2]
    exact ⟨h0, h1⟩
  · have hm := med_memN c hi
    have h1 := idxP_lt hm
    have h0 := idxP_pos.2 hm
    have h2 := idxP_get hm
    rw [fn, (med_n c hi).1, pbG_nth (by omega), h2, pbNode]
    exact (c.mp.n i hi).2.2
  · have hm := med_memE c hi
    have h1 := idxP_lt hm
    have h0 := idxP_pos.2 hm
    have h2 := idxP_get hm
    obtain ⟨_, _, g1, g2, g3, g4⟩ := c.mp.ga.edges _ (eth_mem hi)
    obtain ⟨_, _, t1, u1, v1⟩ := c.mp.e i hi
    obtain ⟨_, _, t2, u2, v2⟩ := c.mq.e i hi
    rw [fn, (med_e c hi).1, pbG_eth (by omega), h2, pbEdge, (med_n c (show (eth a.edges i).f.toNat < a.nodes.length by omega)).1, (med_n c (show (eth a.edges i).g.toNat < a.nodes.length by omega)).1]
    simp only [← t1, ← u1, ← v1, ← u2, ← v2]
    refine ⟨?_, ?_, ?_⟩ <;> first | rfl | trivial

/-- A cone is accepted exactly if it is a pullback. -/
theorem pbChk_iff {s : Co} {a : Gr} {h k : Pa} (e : medE s a h k = 0) : pbChk s a h k = true ↔ IsPB s a h k := by
  have c := med_cone e
  have pb := pb_std c.ok
  have hm := med_hom c
  have hi := pbDown_hom c.ok
  have hj := pbUpp_hom c.ok
  have em := mor_zero (hm.ok c.mp.ga (pbG_ok c.e))
  have z1 : ∀ i, i < a.nodes.length → fn (pbDown s).nodes (fn (medC s h k).nodes i) = fn h.nodes i := fun i hi => by rw [fn, (med_n c hi).2.1]; rfl
  have z2 : ∀ i, i < a.nodes.length → fn (pbUpp s).nodes (fn (medC s h k).nodes i) = fn k.nodes i := fun i hi => by rw [fn, (med_n c hi).2.2]; rfl
  have z3 : ∀ i, i < a.edges.length → fn (pbDown s).edges (fn (medC s h k).edges i) = fn h.edges i := fun i hi => by rw [fn, (med_e c hi).2.1]; rfl
  have z4 : ∀ i, i < a.edges.length → fn (pbUpp s).edges (fn (medC s h k).edges i) = fn k.edges i := fun i hi => by rw [fn, (med_e c hi).2.2]; rfl
  have key : pbChk s a h k = true ↔ (((medC s h k).nodes.Nodup ∧ (medC s h k).edges.Nodup) ∧ (covB (medC s h k).nodes (pbG s).nodes.length = true ∧ covB (medC s h k).edges (pbG s).edges.length = true)) := by
    simp [pbChk, e, injB, surjB, em]
  rw [key, nodup_fn hm.ln hm.pn, nodup_fn hm.le hm.pe, cov_fn hm.ln hm.pn, cov_fn hm.le hm.pe]
  constructor
  · rintro ⟨⟨a1, a2⟩, b1, b2⟩
    exact ⟨pb_of_iso pb.1 hm.mn z1 z2 a1 b1, pb_of_iso pb.2 hm.me z3 z4 a2 b2⟩
  · rintro ⟨p1, p2⟩
    obtain ⟨a1, b1⟩ := pb_iso p1 pb.1 hi.mn hj.mn hm.mn z1 z2
    obtain ⟨a2, b2⟩ := pb_iso p2 pb.2 hi.me hj.me hm.me z3 z4
    exact ⟨⟨a1, a2⟩, b1, b2⟩
end Go.Proofs.Ythapbbpdcjmmfaa

/- The kind of a valid square that commutes. No program in sight. -/
namespace Go.Proofs.Ythapbbpdcjmmfaa
open Abs Po
set_option linter.unusedSimpArgs false
set_option linter.unusedVariables false

theorem sq_parts {s : Sq} (h1 : sqErr s = 0) : morErr s.A s.B s.F = 0 ∧ morErr s.A s.C s.G = 0 ∧ morErr s.B s.D s.H = 0 ∧ morErr s.C s.D s.K = 0 := by
  have ok := sqErr_ok h1
  exact ⟨mor_zero ok.F, mor_zero ok.G, mor_zero ok.H, mor_zero ok.K⟩
theorem sq_zero {s : Sq} (F : MorOk s.A s.B s.F) (G : MorOk s.A s.C s.G) (H : MorOk s.B s.D s.H) (K : MorOk s.C s.D s.K) : sqErr s = 0 := by
  simp [sqErr, mor_zero F, mor_zero G, mor_zero H, mor_zero K]
theorem down_err {s : Sq} (h1 : sqErr s = 0) : spErr (downS s) = 0 := by
  obtain ⟨a, b, _, _⟩ := sq_parts h1
  show (if morErr s.A s.B s.F = 0 then morErr s.A s.C s.G else morErr s.A s.B s.F) = 0
  rw [if_pos a, b]
theorem up_err {s : Sq} (h1 : sqErr s = 0) : coErr (upS s) = 0 := by
  obtain ⟨_, _, a, b⟩ := sq_parts h1
  show (if morErr s.B s.D s.H = 0 then morErr s.C s.D s.K else morErr s.B s.D s.H) = 0
  rw [if_pos a, b]
theorem pm_zero {s : Sq} (h1 : sqErr s = 0) (h2 : commB s = true) (h3 : unErr s.B s.C = 0) : pmE (downS s) s.D s.H s.K = 0 := by
  obtain ⟨a, b, c, d⟩ := sq_parts h1
  rw [pmE, if_pos (down_err h1), if_pos (show morErr (downS s).B s.D s.H = 0 from c), if_pos (show morErr (downS s).C s.D s.K = 0 from d), if_pos (show unErr (downS s).B (downS s).C = 0 from h3)]
  exact if_pos h2
theorem med_zero {s : Sq} (h1 : sqErr s = 0) (h2 : commB s = true) (h3 : pbErr (upS s) = 0) : medE (upS s) s.A s.F s.G = 0 := by
  obtain ⟨a, b, c, d⟩ := sq_parts h1
  rw [medE, if_pos h3, if_pos (show morErr s.A (upS s).B s.F = 0 from a), if_pos (show morErr s.A (upS s).C s.G = 0 from b)]
  exact if_pos h2
theorem pb_errs {s : Sq} (h1 : sqErr s = 0) : pbErr (upS s) = 0 ∨ pbErr (upS s) = 3 := by
  rw [pbErr, if_pos (up_err h1)]
  split
  · exact .inr rfl
  · exact .inl rfl
theorem un_errs {a b : Gr} (ga : GrOk a) (gb : GrOk b) : unErr a b = 0 ∨ unErr a b = 3 := by
  rw [unErr, if_pos (gErr_of ga), if_pos (gErr_of gb)]
  split
  · exact .inr rfl
  · exact .inl rfl
theorem un_zero {a b : Gr} (ga : GrOk a) (gb : GrOk b) (hn : a.nodes.length + b.nodes.length ≤ 40) (he : a.edges.length + b.edges.length ≤ 80) : unErr a b = 0 := by
  rw [unErr, if_pos (gErr_of ga), if_pos (gErr_of gb), if_neg]
  simp only [unBig]
  omega

/-- Pushout, pullback. -/
def SqPO (s : Sq) : Prop := IsPO (downS s) s.D s.H s.K
def SqPB (s : Sq) : Prop := IsPB (upS s) s.A s.F s.G

open Classical in
theorem kind_is {s : Sq} (h1 : sqErr s = 0) (h2 : commB s = true) (h3 : unErr s.B s.C = 0) :
    kindR s = (0, 3) ∨ kindR s = ((if SqPO s then 1 else 0) + (if SqPB s then 2 else 0), 0) := by
  have e1 : poErr (downS s) = 0 := by rw [poErr, if_pos (down_err h1)]; exact h3
  rcases pb_errs h1 with e | e
  · refine .inr ?_
    have k1 := poChk_iff (pm_zero h1 h2 h3)
    have k2 := pbChk_iff (med_zero h1 h2 e)
    rw [kindR, if_pos h1, if_pos h2, if_pos e1, if_pos e, kindN]
    have c1 : (poChk (downS s) s.D s.H s.K = true) = SqPO s := propext k1
    have c2 : (pbChk (upS s) s.A s.F s.G = true) = SqPB s := propext k2
    congr 1
    congr 1
    · by_cases h : SqPO s
      · rw [if_pos (k1.2 h), if_pos h]
      · rw [if_neg (fun x => h (k1.1 x)), if_neg h]
    · by_cases h : SqPB s
      · rw [if_pos (k2.2 h), if_pos h]
      · rw [if_neg (fun x => h (k2.1 x)), if_neg h]
  · refine .inl ?_
    rw [kindR, if_pos h1, if_pos h2, if_pos e1, if_neg (by omega), e]
theorem kind_too {s : Sq} (h1 : sqErr s = 0) (h2 : commB s = true) (h3 : unErr s.B s.C = 3) : kindR s = (0, 3) := by
  have e1 : poErr (downS s) = 3 := by rw [poErr, if_pos (down_err h1)]; exact h3
  rw [kindR, if_pos h1, if_pos h2, if_neg (by omega), e1]

theorem comm_of {s : Sq} (F : MorOk s.A s.B s.F) (G : MorOk s.A s.C s.G) (H : MorOk s.B s.D s.H) (K : MorOk s.C s.D s.K)
    (cn : ∀ i, i < s.A.nodes.length → fn s.H.nodes (fn s.F.nodes i) = fn s.K.nodes (fn s.G.nodes i)) (ce : ∀ i, i < s.A.edges.length → fn s.H.edges (fn s.F.edges i) = fn s.K.edges (fn s.G.edges i)) : commB s = true := by
  have l1 := F.ln
  have l2 := G.ln
  have l3 := F.le
  have l4 := G.le
  refine sameP_iff.2 ?_
  have key : ∀ {m : Nat} {f g h k : List Int} {nB nC nD : Nat}, f.length = m → g.length = m → placesIn f nB → placesIn g nC → h.length = nB → k.length = nC → placesIn h nD → placesIn k nD →
      (∀ i, i < m → fn h (fn f i) = fn k (fn g i)) → thru f h = thru g k := fun {m f g h k nB nC nD} e1 e2 pf pg e3 e4 ph pk hc => (thru_eq e1 e2).2 fun i hi => by
    have b1 := (fn_at pf (show i < f.length by omega)).2
    have b2 := (fn_at pg (show i < g.length by omega)).2
    have := hc i hi
    have c1 := (fn_at ph (show fn f i < h.length by omega)).1
    have c2 := (fn_at pk (show fn g i < k.length by omega)).1
    show nth h (fn f i) = nth k (fn g i)
    rw [c1, c2, this]
  have a1 := key F.ln G.ln F.rn G.rn H.ln K.ln H.rn K.rn cn
  have a2 := key F.le G.le F.re G.re H.le K.le H.re K.re ce
  simp only [thenP, a1, a2]
theorem comm_at {s : Sq} (h1 : sqErr s = 0) (h2 : commB s = true) :
    (∀ i, i < s.A.nodes.length → fn s.H.nodes (fn s.F.nodes i) = fn s.K.nodes (fn s.G.nodes i)) ∧ (∀ i, i < s.A.edges.length → fn s.H.edges (fn s.F.edges i) = fn s.K.edges (fn s.G.edges i)) := by
  have ok := sqErr_ok h1
  have l1 := ok.F.ln
  have l2 := ok.G.ln
  have l3 := ok.F.le
  have l4 := ok.G.le
  have h6 := sameP_iff.1 h2
  injection h6 with h6 h7
  exact ⟨fun i hi => same_thru h6 (by omega) (by omega), fun i hi => same_thru h7 (by omega) (by omega)⟩
theorem then_ok {a b c : Gr} {m n : Pa} (hm : MorOk a b m) (hn : MorOk b c n) : MorOk a c (thenP m n) := by
  have h := hm.hom
  have k := hn.hom
  refine Hom.ok ⟨by simp only [thenP, thru_len]; exact h.ln, by simp only [thenP, thru_len]; exact h.le, thru_in k.pn (by rw [k.ln]; exact h.pn), thru_in k.pe (by rw [k.le]; exact h.pe), fun i hi => ?_, fun i hi => ?_⟩ hm.ga hn.gb
  · have b1 := (fn_at h.pn (show i < m.nodes.length by rw [h.ln]; exact hi)).2
    simp only [thenP]
    rw [fn_thru (by rw [h.ln]; exact hi), k.kn _ b1, h.kn i hi]
  · have b1 := (fn_at h.pe (show i < m.edges.length by rw [h.le]; exact hi)).2
    simp only [thenP]
    obtain ⟨x1, x2, x3⟩ := h.ke i hi
    obtain ⟨y1, y2, y3⟩ := k.ke _ b1
    obtain ⟨_, _, g1, g2, g3, g4⟩ := hm.ga.edges _ (eth_mem hi)
    have l := h.ln
    rw [fn_thru (by rw [h.le]; exact hi), y1, y2, y3, x1, x2, x3, thru_nth (by omega), thru_nth (by omega)]
    exact ⟨rfl, rfl, rfl⟩
end Go.Proofs.Ythapbbpdcjmmfaa

/- Images of graphs and grown graphs: their morphisms; spans of descriptions; squares of standard pushouts. No program in sight. -/
namespace Go.Proofs.Ythapbbpdcjmmfaa
open Abs Po
set_option linter.unusedSimpArgs false
set_option linter.unusedVariables false

theorem imT_flat {g : Gr} {c : List Int} : Flat (imT g c) := imP_flat (by omega)
theorem imT_len {g : Gr} {c : List Int} : (imT g c).length = g.nodes.length := imP_len
theorem imT_con {g : Gr} {c : List Int} : ∀ i, i < g.nodes.length → nth g.nodes (nth (imT g c) i).toNat = nth g.nodes i := fun i hi => genL_inv (f := nth g.nodes) (imL_in (by omega)) imL_same hi
theorem imQ_nth {g : Gr} {c : List Int} {i : Nat} (hi : i < g.nodes.length) : ∃ r : Nat, nth (imQ g c) i = (clsN (imT g c) r : Nat) ∧ r < g.nodes.length ∧ nth (imT g c) r = r ∧ nth g.nodes r = nth g.nodes i := by
  obtain ⟨r, h1, h2, h3⟩ := root_of imT_flat imT_len hi
  have h4 := imT_con (g := g) (c := c) i hi
  rw [h1, Int.toNat_natCast] at h4
  refine ⟨r, ?_, h2, h3, h4⟩
  rw [imQ, quotL_nth (by rw [imT_len]; exact hi), h1, Int.toNat_natCast]
theorem imG_nlen {g : Gr} {c : List Int} : (imG g c).nodes.length = clsN (imT g c) g.nodes.length := clsF_len
theorem imQ_in {g : Gr} {c : List Int} : placesIn (imQ g c) (imG g c).nodes.length := by
  rw [imG_nlen]
  exact quotL_in imT_flat imT_len
theorem imQ_len {g : Gr} {c : List Int} : (imQ g c).length = g.nodes.length := by rw [imQ, quotL_len, imT_len]
theorem imAt_ok {E : List Ed} {x : Ed} {c : List Int} {i : Nat} : ∀ k, 0 ≤ imAt E x c i k → eth E (imAt E x c i k).toNat = x
  | 0, h => absurd h (by simp [imAt])
  | k + 1, h => by
    unfold imAt at h ⊢
    split
    · rename_i h1
      rw [Int.toNat_natCast]
      exact h1.1
    · rename_i h1
      rw [if_neg h1] at h
      exact imAt_ok k h
/-- Where the edges go. -/
theorem imS_at {g : Gr} {c q : List Int} : ∀ k i, i < k → 0 ≤ nth (imS g c q k).2 i ∧ nth (imS g c q k).2 i < (imS g c q k).1.length ∧ eth (imS g c q k).1 (nth (imS g c q k).2 i).toNat = imX g q i
  | 0, i, h => absurd h (by omega)
  | k + 1, i, h => by
    have ih := imS_at (g := g) (c := c) (q := q) k
    have hl := (imS_len (g := g) (c := c) (q := q) k).2
    have ha := imAt_lt (E := (imS g c q k).1) (x := imX g q k) (c := c) (i := k) (imS g c q k).1.length
    have hok := imAt_ok (E := (imS g c q k).1) (x := imX g q k) (c := c) (i := k) (imS g c q k).1.length
    unfold imS
    split
    · by_cases e : i = k
      · subst e
        have e1 : nth ((imS g c q i).2 ++ [((imS g c q i).1.length : Int)]) i = (imS g c q i).1.length := by
          rw [nth_eq (by simp; omega), List.getElem_append_right (by omega)]
          simp
        simp only [e1, Int.toNat_natCast]
        refine ⟨by omega, by simp only [List.length_append, List.length_singleton]; omega, ?_⟩
        rw [eth_eq (by simp), List.getElem_append_right (Nat.le_refl _)]
        simp
      · obtain ⟨h1, h2, h3⟩ := ih i (by omega)
        have e1 : nth ((imS g c q k).2 ++ [((imS g c q k).1.length : Int)]) i = nth (imS g c q k).2 i := nth_appL (by omega)
        simp only [e1]
        refine ⟨h1, by simp; omega, ?_⟩
        rw [eth_appL (by omega)]
        exact h3
    · rename_i hn
      by_cases e : i = k
      · subst e
        have e1 : nth ((imS g c q i).2 ++ [imAt (imS g c q i).1 (imX g q i) c i (imS g c q i).1.length]) i = imAt (imS g c q i).1 (imX g q i) c i (imS g c q i).1.length := by
          rw [nth_eq (by simp; omega), List.getElem_append_right (by omega)]
          simp
        simp only [e1]
        exact ⟨by omega, ha.2, hok (by omega)⟩
      · obtain ⟨h1, h2, h3⟩ := ih i (by omega)
        have e1 : nth ((imS g c q k).2 ++ [imAt (imS g c q k).1 (imX g q k) c k (imS g c q k).1.length]) i = nth (imS g c q k).2 i := nth_appL (by omega)
        simp only [e1]
        exact ⟨h1, h2, h3⟩
theorem imS_mem {g : Gr} {c q : List Int} : ∀ k, ∀ e ∈ (imS g c q k).1, ∃ i, i < k ∧ e = imX g q i
  | 0, e, h => by simp [imS] at h
  | k + 1, e, h => by
    unfold imS at h
    split at h
    · rcases List.mem_append.1 h with h | h
      · obtain ⟨i, hi, he⟩ := imS_mem k e h
        exact ⟨i, by omega, he⟩
      · simp at h
        exact ⟨k, by omega, h⟩
    · obtain ⟨i, hi, he⟩ := imS_mem k e h
      exact ⟨i, by omega, he⟩
theorem imG_ok {g : Gr} {c : List Int} (gg : GrOk g) : GrOk (imG g c) := by
  have hf := imG_few (g := g) (c := c)
  have b1 := gg.n
  have b2 := gg.e
  refine ⟨by omega, by omega, fun x hx => ?_, fun e he => ?_⟩
  · obtain ⟨j, hj, hx⟩ := mem_collect.1 hx
    unfold clsF at hx
    split at hx
    · injection hx with hx
      rw [← hx]
      exact gg.kinds _ (nth_mem hj)
    · cases hx
  · obtain ⟨i, hi, rfl⟩ := imS_mem _ e he
    obtain ⟨t1, t2, g1, g2, g3, g4⟩ := gg.edges _ (eth_mem hi)
    have l := imQ_len (g := g) (c := c)
    have p1 := imQ_in _ (nth_mem (l := imQ g c) (k := (eth g.edges i).f.toNat) (by omega))
    have p2 := imQ_in _ (nth_mem (l := imQ g c) (k := (eth g.edges i).g.toNat) (by omega))
    exact ⟨t1, t2, p1.1, p1.2, p2.1, p2.2⟩
theorem im_mor {g : Gr} {c : List Int} (gg : GrOk g) : MorOk g (imG g c) (imM g c) := by
  refine Hom.ok ⟨imQ_len, (imS_len _).2, imQ_in, fun x hx => ?_, fun i hi => ?_, fun i hi => ?_⟩ gg (imG_ok gg)
  · obtain ⟨i, hi, rfl⟩ := mem_nth hx
    have hi : i < (imS g c (imQ g c) g.edges.length).2.length := hi
    rw [(imS_len _).2] at hi
    obtain ⟨h1, h2, _⟩ := imS_at _ i hi
    exact ⟨h1, h2⟩
  · obtain ⟨r, h1, h2, h3, h4⟩ := imQ_nth (c := c) hi
    have := clsF_get (f := nth g.nodes) h3 (k := g.nodes.length) h2
    have e : fn (imM g c).nodes i = clsN (imT g c) r := by
      show fn (imQ g c) i = _
      rw [fn, h1]; rfl
    rw [e, ← h4]
    show ((collect (clsF (imT g c) (nth g.nodes)) g.nodes.length).getD (clsN (imT g c) r) 0) = _
    rw [List.getD, this]
    rfl
  · obtain ⟨h1, h2, h3⟩ := imS_at (g := g) (c := c) (q := imQ g c) _ i hi
    have e : eth (imG g c).edges (fn (imM g c).edges i) = imX g (imQ g c) i := h3
    rw [e]
    exact ⟨rfl, rfl, rfl⟩
theorem id_mor {g : Gr} (gg : GrOk g) : MorOk g g (idP g) := by
  refine Hom.ok ⟨idL_len, idL_len, fun x hx => ?_, fun x hx => ?_, fun i hi => ?_, fun i hi => ?_⟩ gg gg
  · obtain ⟨i, hi, rfl⟩ := mem_nth hx
    have hi : i < (idL g.nodes.length).length := hi
    rw [idL_len] at hi
    have e : nth (idP g).nodes i = i := idL_nth hi
    rw [e]
    omega
  · obtain ⟨i, hi, rfl⟩ := mem_nth hx
    have hi : i < (idL g.edges.length).length := hi
    rw [idL_len] at hi
    have e : nth (idP g).edges i = i := idL_nth hi
    rw [e]
    omega
  · have e : fn (idP g).nodes i = i := by
      show fn (idL g.nodes.length) i = i
      rw [fn, idL_nth hi]; rfl
    rw [e]
  · have e : fn (idP g).edges i = i := by
      show fn (idL g.edges.length) i = i
      rw [fn, idL_nth hi]; rfl
    obtain ⟨_, _, g1, g2, g3, g4⟩ := gg.edges _ (eth_mem hi)
    rw [e]
    have e1 : nth (idP g).nodes (eth g.edges i).f.toNat = (eth g.edges i).f := by
      show nth (idL g.nodes.length) _ = _
      rw [idL_nth (by omega)]; omega
    have e2 : nth (idP g).nodes (eth g.edges i).g.toNat = (eth g.edges i).g := by
      show nth (idL g.nodes.length) _ = _
      rw [idL_nth (by omega)]; omega
    rw [e1, e2]
    exact ⟨rfl, rfl, rfl⟩
theorem gr_base {g : Gr} {l : List Nat} (gg : GrOk g) : MorOk g (grG g l) (grM g l) := by
  unfold grG grM
  split
  · exact im_mor gg
  · exact id_mor gg

/-- More nodes and edges. -/
theorem more_mor {a b : Gr} {m : Pa} {x : List Int} {y : List Ed} (h : MorOk a b m) (gb : GrOk ⟨b.nodes ++ x, b.edges ++ y⟩) : MorOk a ⟨b.nodes ++ x, b.edges ++ y⟩ m := by
  have hh := h.hom
  refine Hom.ok ⟨hh.ln, hh.le, fun z hz => ?_, fun z hz => ?_, fun i hi => ?_, fun i hi => ?_⟩ h.ga gb
  · have := hh.pn z hz
    simp only [List.length_append]
    omega
  · have := hh.pe z hz
    simp only [List.length_append]
    omega
  · have := hh.mn i hi
    show nth (b.nodes ++ x) _ = _
    rw [nth_appL this]
    exact hh.kn i hi
  · have := hh.me i hi
    show (eth (b.edges ++ y) _).t = _ ∧ (eth (b.edges ++ y) _).f = _ ∧ (eth (b.edges ++ y) _).g = _
    rw [eth_appL this]
    exact hh.ke i hi
theorem grow_few {g : Gr} {l : List Nat} : (growG g l).nodes.length ≤ g.nodes.length + 3 ∧ (growG g l).edges.length ≤ g.edges.length + 4 := by
  have hf := grG_few (g := g) (l := l)
  have h1 : (growG g l).nodes.length ≤ (grG g l).nodes.length + gnc l := grN_len
  have h2 : (growG g l).edges.length = (grG g l).edges.length + gec g l := grE_len
  have h3 : gnc l ≤ 3 := by simp only [gnc]; omega
  have h4 : gec g l ≤ 4 := by
    simp only [gec]
    split <;> omega
  omega
theorem grow_ok {g : Gr} {l : List Nat} (gg : GrOk g) (hn : g.nodes.length ≤ 37) (he : g.edges.length ≤ 76) : GrOk (growG g l) := by
  have hb := (gr_base (l := l) gg).gb
  have hf := grow_few (g := g) (l := l)
  have hl : (grG g l).nodes.length ≤ (grn g l).length := by
    simp only [grn, grN, List.length_append]
    omega
  refine ⟨by omega, by omega, fun x hx => ?_, fun e h => ?_⟩
  · have hx : x ∈ (grG g l).nodes ++ collect (gnF l) (gnc l) := hx
    rcases List.mem_append.1 hx with hx | hx
    · exact hb.kinds x hx
    · obtain ⟨j, _, hj⟩ := mem_collect.1 hx
      unfold gnF at hj
      split at hj
      · injection hj with hj
        omega
      · cases hj
  · have h : e ∈ (grG g l).edges ++ (List.range (gec g l)).map (geX l (grn g l).length) := h
    rcases List.mem_append.1 h with h | h
    · obtain ⟨t1, t2, g1, g2, g3, g4⟩ := hb.edges e h
      have e1 : (growG g l).nodes.length = (grn g l).length := rfl
      exact ⟨t1, t2, g1, by omega, g3, by omega⟩
    · obtain ⟨j, hj, rfl⟩ := List.mem_map.1 h
      have hj := List.mem_range.1 hj
      have z : (grn g l).length ≠ 0 := by
        intro z
        simp [gec, z] at hj
      have z1 := Nat.mod_lt (byth l (j + 4) / 2) (Nat.pos_of_ne_zero z)
      have z2 := Nat.mod_lt (byth l (j + 4) / 16) (Nat.pos_of_ne_zero z)
      have e1 : (growG g l).nodes.length = (grn g l).length := rfl
      rw [e1]
      simp only [geX]
      omega
theorem grow_mor {g : Gr} {l : List Nat} (gg : GrOk g) (hn : g.nodes.length ≤ 37) (he : g.edges.length ≤ 76) : MorOk g (growG g l) (grM g l) :=
  more_mor (gr_base gg) (grow_ok gg hn he)

theorem mdS_ok {d : Dr} {b c : List Nat} : SpOk (mdS d b c) := by
  have hf := mdG_few (d := d)
  have h1 := grow_mor (l := b) (mdG_ok (d := d)) (by omega) (by omega)
  have h2 := grow_mor (l := c) (mdG_ok (d := d)) (by omega) (by omega)
  exact ⟨h1, h2⟩
theorem mdS_few {d : Dr} {b c : List Nat} : (mdS d b c).B.nodes.length ≤ 11 ∧ (mdS d b c).B.edges.length ≤ 14 ∧ (mdS d b c).C.nodes.length ≤ 11 ∧ (mdS d b c).C.edges.length ≤ 14 := by
  have hf := mdG_few (d := d)
  have h1 := grow_few (g := mdG d) (l := b)
  have h2 := grow_few (g := mdG d) (l := c)
  simp only [mdS]
  omega

theorem mdS_un' {d : Dr} {b c : List Nat} : unErr (mdS d b c).B (mdS d b c).C = 0 := by
  have hf := mdS_few (d := d) (b := b) (c := c)
  exact un_zero mdS_ok.F.gb mdS_ok.G.gb (by omega) (by omega)

/-! ### The square of a standard pushout -/
theorem gl_is {s : Sp} (ok : SpOk s) (hu : unErr s.B s.C = 0) : glS s = ⟨s.A, s.B, s.C, poG s, s.F, s.G, poI s, poJ s⟩ := by
  have e1 : poErr s = 0 := by
    rw [poErr, if_pos]
    · exact hu
    · rw [spErr, if_pos (mor_zero ok.F)]
      exact mor_zero ok.G
  simp [glS, poR, e1]
theorem gl_sq {s : Sp} (ok : SpOk s) (hu : unErr s.B s.C = 0) : sqErr (glS s) = 0 ∧ commB (glS s) = true ∧ SqPO (glS s) := by
  rw [gl_is ok hu]
  have g := poG_ok ok hu
  have po := po_std ok
  have hH := (poI_hom ok).ok ok.F.gb g
  have hK := (poJ_hom ok).ok ok.G.gb g
  exact ⟨sq_zero ok.F ok.G hH hK, comm_of ok.F ok.G hH hK po.1.comm po.2.comm, po⟩
theorem po_pb {s : Sq} (h1 : sqErr s = 0) (po : SqPO s) (hi : injB s.A s.B s.F = true ∨ injB s.A s.C s.G = true) : SqPB s := by
  have ok := sqErr_ok h1
  rcases hi with hi | hi
  · simp [injB] at hi
    exact ⟨po_inj po.1 ok.F.hom.mn ((nodup_fn ok.F.ln ok.F.rn).1 hi.1.2), po_inj po.2 ok.F.hom.me ((nodup_fn ok.F.le ok.F.re).1 hi.2)⟩
  · simp [injB] at hi
    exact ⟨(po_inj po.1.symm ok.G.hom.mn ((nodup_fn ok.G.ln ok.G.rn).1 hi.1.2)).symm, (po_inj po.2.symm ok.G.hom.me ((nodup_fn ok.G.le ok.G.re).1 hi.2)).symm⟩
open Classical in
theorem gl_kind {s : Sp} (ok : SpOk s) (hu : unErr s.B s.C = 0) :
    kindR (glS s) = (0, 3) ∨ kindR (glS s) = (3, 0) ∨ kindR (glS s) = (1, 0) ∧ injB s.A s.B s.F = false ∧ injB s.A s.C s.G = false := by
  obtain ⟨h1, h2, h3⟩ := gl_sq ok hu
  rcases kind_is h1 h2 (by rw [gl_is ok hu]; exact hu) with e | e
  · exact .inl e
  · rw [if_pos h3] at e
    by_cases hp : SqPB (glS s)
    · rw [if_pos hp] at e
      exact .inr (.inl e)
    · rw [if_neg hp] at e
      refine .inr (.inr ⟨e, ?_, ?_⟩)
      · cases hi : injB s.A s.B s.F
        · rfl
        · exact absurd (po_pb h1 h3 (.inl hi)) hp
      · cases hi : injB s.A s.C s.G
        · rfl
        · exact absurd (po_pb h1 h3 (.inr hi)) hp
end Go.Proofs.Ythapbbpdcjmmfaa

/- Cases of descriptions: their contract; parts that bits mean are parts. -/
namespace Go.Proofs.Ythapbbpdcjmmfaa
open Abs Po
set_option linter.unusedSimpArgs false
set_option linter.unusedVariables false
attribute [local simp] rn0 rn1 rn2 rn3 rn4 rn5 rn6 rn7 evOp nests Arg.ev St.val St.set St.new sliceOf binInt2 binInt AV.cells rdAt St.live retOf resOf resAll treeOf treeCell treeCells treeTups untree frameOf TV.av TR.av ints edgs prs fillV splice intsOf trees V1.tree bx Gr.v Pa.v opRd opWr opNew opNewR opArgs argsRd argRd Arg.rd AV.refs V1.refs refsL dstL

theorem mask_part {g : Gr} {s : Nat} : PartOk g (maskP g s) := ⟨canon_asc, canon_asc, fun x hx => ⟨(mem_canon.1 hx).1, (mem_canon.1 hx).2.1⟩, fun x hx => ⟨(mem_canon.1 hx).1, (mem_canon.1 hx).2.1⟩⟩
theorem mask_sub {g : Gr} {s : Nat} (go : GrOk g) : subErr g (maskP g s) = 0 := by
  rw [subErr, if_pos (gErr_of go)]
  refine (part_iff mask_part).2 fun k hk => ?_
  obtain ⟨h1, h2, h3⟩ := mem_canon.1 hk
  obtain ⟨i, hi, _, he⟩ := mem_bits.1 h3
  obtain ⟨_, _, q1, q2, q3, q4⟩ := go.edges _ (eth_mem hi)
  rw [he, Int.toNat_natCast]
  rw [he] at h3
  exact ⟨mem_canon.2 ⟨q1, q2, List.mem_append.2 (.inr (endsL_mem.2 ⟨i, hi, h3, .inl rfl⟩))⟩, mem_canon.2 ⟨q3, q4, List.mem_append.2 (.inr (endsL_mem.2 ⟨i, hi, h3, .inr rfl⟩))⟩⟩
theorem mask_tiny {g : Gr} {s : Nat} (go : GrOk g) : tinyP (maskP g s) := by
  have h1 := canon_len (n := g.nodes.length) (a := bitsL s 0 g.nodes.length ++ endsL g (bitsL s g.nodes.length g.edges.length) g.edges.length)
  have h2 := canon_len (n := g.edges.length) (a := bitsL s g.nodes.length g.edges.length)
  have b1 := go.n
  have b2 := go.e
  exact ⟨by simp only [tiny, maskP]; omega, by simp only [tiny, maskP]; omega⟩

/-- The four parts of a case of a description. -/
def dG (d : Dr) (c : List Nat) : Gr := growG (mdG d) c
def dM (d : Dr) (c : List Nat) : Pa := grM (mdG d) c
theorem dMor {d : Dr} {c : List Nat} : MorOk (mdG d) (dG d c) (dM d c) := by
  have hf := mdG_few (d := d)
  exact grow_mor mdG_ok (by omega) (by omega)
theorem dFew {d : Dr} {c : List Nat} : (dG d c).nodes.length ≤ 11 ∧ (dG d c).edges.length ≤ 14 := by
  have hf := mdG_few (d := d)
  have h2 := grow_few (g := mdG d) (l := c)
  simp only [dG]
  omega
theorem dTiny {d : Dr} {c : List Nat} {p : Pa} (hp : tinyP p) : TinyCase (mdG d) (dG d c) p (dM d c) := by
  have hf := mdG_few (d := d)
  have h2 := dFew (d := d) (c := c)
  have m := dMor (d := d) (c := c)
  have l1 := m.ln
  have l2 := m.le
  exact ⟨⟨by simp only [tiny]; omega, by simp only [tiny]; omega⟩, ⟨by simp only [tiny]; omega, by simp only [tiny]; omega⟩, hp, ⟨by simp only [tiny]; omega, by simp only [tiny]; omega⟩⟩
theorem dCase {d : Dr} {c : List Nat} {p : Pa} (hp : subErr (mdG d) p = 0) : caseErr (mdG d) (dG d c) p (dM d c) = 0 := by
  rw [caseErr, if_pos (mor_zero dMor)]
  exact hp

def c_made12 : MFunc := ⟨25, [.cell 6 true 8], .seq (.region [⟨some 3, .box 0 41 (.tmp 0), none⟩, ⟨some 6, .alloc 1 30 [.nil, .nil, .nil, .nil, .nil, .nil, .nil, .nil], none⟩]) (.seq (.region [⟨some 10, .load true 2 (.tmp 3), none⟩, ⟨some 11, .call (.c (.one (.fn 55 []))) 65 [.tmp 10], none⟩, ⟨some 7, .alloc 66 25 [.nil, .nil], none⟩, ⟨none, .store 2 (.tmp 7) (.tmp 11), none⟩]) (.seq (.region [⟨some 13, .load true 2 (.tmp 7), none⟩, ⟨some 14, .mv (.tmp 1), none⟩, ⟨some 15, .call (.c (.one (.fn 56 []))) 130 [.tmp 13, .tmp 14], none⟩, ⟨some 12, .mv (.tmp 15), none⟩, ⟨some 16, .extract (.tmp 12) 0, none⟩, ⟨some 17, .extract (.tmp 12) 1, none⟩, ⟨some 8, .alloc 134 25 [.nil, .nil], none⟩, ⟨some 9, .alloc 135 28 [.nil, .nil], none⟩, ⟨none, .store 2 (.tmp 8) (.tmp 16), none⟩, ⟨none, .store 2 (.tmp 9) (.tmp 17), none⟩]) (.seq (.draw [[], [], [], [], [2, 3], [], [0, 1, 4, 5], [6, 4, 0, 1, 2, 3, 4, 5, 6]] [⟨some 18, .load true 2 (.tmp 7), none⟩, ⟨some 19, .load true 2 (.tmp 8), none⟩, ⟨some 20, .load true 2 (.tmp 7), none⟩, ⟨some 21, .mv (.tmp 2), none⟩, ⟨some 22, .call (.c (.one (.fn 30 []))) 196 [.tmp 20, .tmp 21], none⟩, ⟨some 23, .load true 2 (.tmp 9), none⟩, ⟨some 24, .build [.nil, .nil, .nil, .nil, .nil, .nil, .nil, .nil] [(0, (2, .tmp 18)), (2, (2, .tmp 19)), (4, (2, .tmp 22)), (6, (2, .tmp 23))], none⟩, ⟨none, .store 8 (.tmp 6) (.tmp 24), none⟩]) .ret)))⟩
theorem k_made12 : cFn Try.prog Try.f18 = some c_made12 := by kernel_rfl
set_option maxHeartbeats 2000000 in
theorem made12_ok (d : Dr) (c : List Nat) (s : Nat) (hd : BoundD d) (hc : c.length ≤ 1048576) (hcs : ∀ x ∈ c, x < 256) : CallOK Try.prog 18 [d.v, byV c, u64V s] (.sv (gluV (mdG d) (dG d c) (maskP (mdG d) s) (dM d c))) := by
  refine callOK_W (callS_W (by kernel_rfl) Try.func18 k_made12 (callable_of Try.func18 (by kernel_rfl)) (by simp [c_made12]) ?_)
  simp [c_made12, byV, bys, Dr.v, u64V]
  refine callS_tree (made05_ok d hd) ?_ ?_ ?_
  · rfl
  · rfl
  simp
  refine callS_tree (grown10_ok (mdG d) c mdG_ok hc hcs) ?_ ?_ ?_
  · rfl
  · rfl
  simp [dw0, dw1, dw2, dw3]
  refine dCall_ok (made7_ok (mdG d) s mdG_ok) ?_ ?_ ?_
  · rfl
  · rfl
  simp [dw0, dw1, dw2, dw3, gluV, dG, dM]
  first | kernel_rfl | rfl

/-- A complement without error. -/
theorem of_zero {l g : Gr} {p m : Pa} (h0 : caseErr l g p m = 0) (h : (ofR l g p m).2 = 0) : pairsL m.nodes p.nodes = [] ∧ pairsL m.edges p.edges = [] ∧ danglL g p m = [] ∧ (ofR l g p m).1 = ⟨restL g.nodes.length (goneL m.nodes p.nodes), restL g.edges.length (goneL m.edges p.edges)⟩ := by
  rw [ofR, if_pos h0] at h ⊢
  split at h
  · cases h
  rename_i h2
  split at h
  · rename_i h3
    rw [if_neg h2, if_pos h3]
    refine ⟨List.eq_nil_of_length_eq_zero (by omega), List.eq_nil_of_length_eq_zero (by omega), h3, rfl⟩
  · cases h
theorem of_err {l g : Gr} {p m : Pa} (h0 : caseErr l g p m = 0) : (ofR l g p m).2 = 0 ∨ (ofR l g p m).2 = 14 ∨ (ofR l g p m).2 = 15 := by
  rw [ofR, if_pos h0]
  split
  · exact .inr (.inr rfl)
  split
  · exact .inl rfl
  · exact .inr (.inl rfl)

def c_lawCovers : MFunc := ⟨64, [.tmp 6], .seq (.region [⟨some 3, .box 0 41 (.tmp 0), none⟩, ⟨some 6, .mv (.c (.one (.t (.bool false)))), none⟩]) (.seq (.seq (.region [⟨some 10, .call (.c (.one (.fn 10 []))) 64 [], none⟩, ⟨some 11, .not (.tmp 10), none⟩]) (.cond (.tmp 11) (.seq (.region [⟨some 6, .mv (.c (.one (.t (.bool false)))), none⟩]) .ret) .skip)) (.seq (.region [⟨some 12, .load true 2 (.tmp 3), none⟩, ⟨some 13, .mv (.tmp 1), none⟩, ⟨some 14, .mv (.tmp 2), none⟩, ⟨some 15, .call (.c (.one (.fn 18 []))) 195 [.tmp 12, .tmp 13, .tmp 14], none⟩, ⟨some 7, .alloc 196 30 [.nil, .nil, .nil, .nil, .nil, .nil, .nil, .nil], none⟩, ⟨none, .store 8 (.tmp 7) (.tmp 15), none⟩]) (.seq (.region [⟨some 17, .fieldA 0 (.tmp 7), none⟩, ⟨some 18, .load true 2 (.tmp 17), none⟩, ⟨some 19, .fieldA 2 (.tmp 7), none⟩, ⟨some 20, .load true 2 (.tmp 19), none⟩, ⟨some 21, .fieldA 4 (.tmp 7), none⟩, ⟨some 22, .load true 2 (.tmp 21), none⟩, ⟨some 23, .fieldA 6 (.tmp 7), none⟩, ⟨some 24, .load true 2 (.tmp 23), none⟩, ⟨some 25, .call (.c (.one (.fn 12 []))) 264 [.tmp 18, .tmp 20, .tmp 22, .tmp 24], none⟩, ⟨some 16, .mv (.tmp 25), none⟩, ⟨some 26, .extract (.tmp 16) 0, none⟩, ⟨some 27, .extract (.tmp 16) 1, none⟩, ⟨some 8, .alloc 268 27 [.nil, .nil], none⟩, ⟨none, .store 2 (.tmp 8) (.tmp 26), none⟩, ⟨some 9, .mv (.tmp 27), none⟩]) (.seq (.seq (.region [⟨some 28, .mv (.tmp 9), none⟩, ⟨some 29, .bin .neq (.tmp 28) (.c (.one (.t (.int .i64 0)))), none⟩]) (.cond (.tmp 29) (.seq (.region [⟨some 30, .mv (.tmp 9), none⟩, ⟨some 31, .bin .eql (.tmp 30) (.c (.one (.t (.int .i64 15)))), none⟩, ⟨some 32, .mv (.tmp 31), none⟩, ⟨some 33, .mv (.tmp 9), some (32, false)⟩, ⟨some 34, .bin .eql (.tmp 33) (.c (.one (.t (.int .i64 14)))), some (32, false)⟩, ⟨some 35, .pick (.tmp 32) (.c (.one (.t (.bool true)))) (.tmp 34), none⟩, ⟨some 6, .mv (.tmp 35), none⟩]) .ret) .skip)) (.seq (.region [⟨some 36, .fieldA 2 (.tmp 7), none⟩, ⟨some 37, .fieldA 0 (.tmp 36), none⟩, ⟨some 38, .load false 1 (.tmp 37), none⟩, ⟨some 39, .len (.tmp 38), none⟩, ⟨some 40, .fieldA 0 (.tmp 8), none⟩, ⟨some 41, .load false 1 (.tmp 40), none⟩, ⟨some 42, .fieldA 6 (.tmp 7), none⟩, ⟨some 43, .fieldA 0 (.tmp 42), none⟩, ⟨some 44, .load false 1 (.tmp 43), none⟩, ⟨some 45, .fieldA 4 (.tmp 7), none⟩, ⟨some 46, .fieldA 0 (.tmp 45), none⟩, ⟨some 47, .load false 1 (.tmp 46), none⟩, ⟨some 48, .call (.c (.one (.fn 19 []))) 460 [.tmp 39, .tmp 41, .tmp 44, .tmp 47], none⟩, ⟨some 49, .mv (.tmp 48), none⟩, ⟨some 50, .fieldA 2 (.tmp 7), some (49, true)⟩, ⟨some 51, .fieldA 1 (.tmp 50), some (49, true)⟩, ⟨some 52, .load false 1 (.tmp 51), some (49, true)⟩, ⟨some 53, .len (.tmp 52), some (49, true)⟩, ⟨some 54, .fieldA 1 (.tmp 8), some (49, true)⟩, ⟨some 55, .load false 1 (.tmp 54), some (49, true)⟩, ⟨some 56, .fieldA 6 (.tmp 7), some (49, true)⟩, ⟨some 57, .fieldA 1 (.tmp 56), some (49, true)⟩, ⟨some 58, .load false 1 (.tmp 57), some (49, true)⟩, ⟨some 59, .fieldA 4 (.tmp 7), some (49, true)⟩, ⟨some 60, .fieldA 1 (.tmp 59), some (49, true)⟩, ⟨some 61, .load false 1 (.tmp 60), some (49, true)⟩, ⟨some 62, .call (.c (.one (.fn 19 []))) 474 [.tmp 53, .tmp 55, .tmp 58, .tmp 61], some (49, true)⟩, ⟨some 63, .pick (.tmp 49) (.tmp 62) (.c (.one (.t (.bool false)))), none⟩, ⟨some 6, .mv (.tmp 63), none⟩]) .ret)))))⟩
theorem k_lawCovers : cFn Try.prog Try.f5 = some c_lawCovers := by kernel_rfl
set_option maxHeartbeats 4000000 in
theorem lawCovers_ok (d : Dr) (c : List Nat) (s : Nat) (hd : BoundD d) (hc : c.length ≤ 1048576) (hcs : ∀ x ∈ c, x < 256) : CallOK Try.prog 5 [d.v, byV c, u64V s] (.sv (false, [.bool true])) := by
  refine callOK_W (callS_W (by kernel_rfl) Try.func5 k_lawCovers (callable_of Try.func5 (by kernel_rfl)) (by simp [c_lawCovers]) ?_)
  have hp := mask_tiny (s := s) (mdG_ok (d := d))
  have ht := dTiny (d := d) (c := c) hp
  have h0 := dCase (d := d) (c := c) (mask_sub (s := s) (mdG_ok (d := d)))
  have m0 := dMor (d := d) (c := c)
  simp [c_lawCovers, byV, bys, Dr.v, u64V]
  refine callS_tree awake_ok ?_ ?_ ?_
  · rfl
  · rfl
  simp
  refine callS_tree (made12_ok d c s hd hc hcs) ?_ ?_ ?_
  · rfl
  · rfl
  simp [gluV]
  refine callS_tree (of_ok _ _ _ _ ht) ?_ ?_ ?_
  · rfl
  · rfl
  rcases of_err h0 with h | h | h
  · obtain ⟨p1, p2, p3, p4⟩ := of_zero h0 h
    simp [h, p4]
    refine callS_tree (covers_ok (dG d c).nodes.length (dM d c).nodes (maskP (mdG d) s).nodes ht.tg.1 ht.tm.1 hp.1 p1) ?_ ?_ ?_
    · rfl
    · rfl
    simp
    refine callS_tree (covers_ok (dG d c).edges.length (dM d c).edges (maskP (mdG d) s).edges ht.tg.2 ht.tm.2 hp.2 p2) ?_ ?_ ?_
    · rfl
    · rfl
    simp
  · simp [h]
  · simp [h]
end Go.Proofs.Ythapbbpdcjmmfaa

/- Descriptions, lists of bytes and words as arguments, opened. -/
namespace Go.Proofs.Ythapbbpdcjmmfaa
open Abs
open Go.ChangeShapes Go.WideShapes Go.RowKit
set_option linter.unusedSimpArgs false
set_option linter.unusedVariables false

theorem oB : OpensB Try.prog 38 := fun H enc w base spare held fuel cs x h => open_by_list Try.underlying38 Try.underlying5 (by kernel_rfl) h
theorem oT : OpensT Try.prog 39 := fun H enc w base spare held fuel cs x h => open_t3_list Try.underlying39 Try.underlying113 Try.underlying5 (by kernel_rfl) (by kernel_rfl) h

theorem oD : OpensD Try.prog 41 := opensD Try.underlying41 ⟨rfl, rfl, rfl, rfl⟩ (by kernel_rfl) (by kernel_rfl) (by kernel_rfl) oB oT

theorem open_draft {H : Type} {enc : TypeId × Value → H} {w : World} {base : Nat} {spare : Nat → Bool} {held : Bool} {v : Value} {d : DataW H} {ps : List MemPlace} (h : DataW.Trod enc Try.prog w base spare held 41 v d ps)
    (hw : (d.weights Try.prog 41).all (· ≤ reachBytes) = true) : ∃ x : Dr, TVR w (fun _ => False) x.v v ∧ BoundD x := oD _ _ _ _ _ _ _ _ _ h

theorem open_bytes {H : Type} {enc : TypeId × Value → H} {w : World} {base : Nat} {spare : Nat → Bool} {held : Bool} {v : Value} {d : DataW H} {ps : List MemPlace} (h : DataW.Trod enc Try.prog w base spare held 38 v d ps)
    (hw : (d.weights Try.prog 38).all (· ≤ reachBytes) = true) (hs : ∃ a len cap, v = Value.slice a len cap) : ∃ x, TVR w (fun _ => False) (byV x) v ∧ BoundB x ∧ (x = [] ∨ ∃ es sp, d = .slice es sp ∧ es.length = x.length) := by
  obtain ⟨a, len, cap, rfl⟩ := hs
  exact opens_bytes oB h fun _ => rfl

theorem open_u64 {H : Type} {enc : TypeId × Value → H} {w : World} {base : Nat} {spare : Nat → Bool} {held : Bool} {v : Value} {d : DataW H} {ps : List MemPlace} (h : DataW.Trod enc Try.prog w base spare held 42 v d ps)
    (hw : (d.weights Try.prog 42).all (· ≤ reachBytes) = true) (hs : ∃ n, v = Value.int .u64 n) : ∃ x, TVR w (fun _ => False) (u64V x) v ∧ BoundU x := by
  obtain ⟨n, rfl⟩ := hs
  exact opens_u64 Try.underlying42 h fun _ => rfl

theorem open_u64s {H : Type} {enc : TypeId × Value → H} {w : World} {base : Nat} {spare : Nat → Bool} {held : Bool} {v : Value} {d : DataW H} {ps : List MemPlace} (h : DataW.Trod enc Try.prog w base spare held 58 v d ps)
    (hw : (d.weights Try.prog 58).all (· ≤ reachBytes) = true) : ∃ x, TVR w (fun _ => False) (u642V x) v ∧ BoundUU x := opens_u64s Try.underlying58 Try.underlying42 (by kernel_rfl) (by kernel_rfl) h

end Go.Proofs.Ythapbbpdcjmmfaa

/- What the bound of the second form gives. -/
namespace Go.Proofs.Ythapbbpdcjmmfaa
theorem bulk_one {H : Type} (d : DataW H) : 1 ≤ Rows.uptoBulk d := by
  cases d with
  | lit l => cases l <;> simp [Rows.uptoBulk]
  | nil => simp [Rows.uptoBulk]
  | ptr d => simp [Rows.uptoBulk]
  | slice elems spare => simp [Rows.uptoBulk]
  | agg parts => simp [Rows.uptoBulk]
  | iface t d => simp [Rows.uptoBulk]
  | map entries => simp [Rows.uptoBulk]
  | held h => simp [Rows.uptoBulk]
theorem bulk_part {H : Type} {d : DataW H} {l : List (DataW H)} (h : d ∈ l) : Rows.uptoBulk d ≤ Rows.uptoBulkAll l := by
  induction l with
  | nil => cases h
  | cons x r ih =>
    simp only [Rows.uptoBulkAll]
    cases List.mem_cons.1 h with
    | inl e => subst e; omega
    | inr e => have := ih e; omega
theorem bulk_len {H : Type} (l : List (DataW H)) : l.length ≤ Rows.uptoBulkAll l := by
  induction l with
  | nil => simp [Rows.uptoBulkAll]
  | cons x r ih => have := bulk_one x; simp only [Rows.uptoBulkAll, List.length_cons]; omega
theorem bulk_bound {H : Type} {l : List (DataW H)} (h : Rows.uptoSmall H l = true) : Rows.uptoBulkAll l ≤ 1048576 := of_decide_eq_true h
/-- A list's length under the bound. -/
theorem bulk_list {H : Type} {l : List (DataW H)} {d : DataW H} {x : List Nat} (h : Rows.uptoSmall H l = true) (hm : d ∈ l) (hd : x = [] ∨ ∃ es sp, d = .slice es sp ∧ es.length = x.length) : x.length ≤ 1048576 := by
  rcases hd with rfl | ⟨es, sp, rfl, he⟩
  · simp
  · have h1 := bulk_bound h
    have h2 := bulk_part hm
    have h3 := bulk_len es
    simp only [Rows.uptoBulk] at h2
    omega
end Go.Proofs.Ythapbbpdcjmmfaa

/- The row of ComplementCovers, closed, if the law answers true for every input. -/
namespace Go.Proofs.Ythapbbpdcjmmfaa
open Abs
open Go.ChangeShapes Go.WideShapes Go.ChangeAt Go.RowKit
set_option linter.unusedSimpArgs false
set_option linter.unusedVariables false

namespace complementCovers
/-- What the law is to answer. -/
def Law : Prop := ∀ (x0 : Dr) (x1 : List Nat) (x2 : Nat), BoundD x0 → BoundB x1 → x1.length ≤ 1048576 → BoundU x2 → CallOK Try.prog 5 [x0.v, byV x1, u64V x2] (.sv (false, [.bool true]))

theorem calls (h : Law) {H : Type} {enc : TypeId × Value → H} {w : World} {base : Nat} {spare : Nat → Bool} {held : Bool} {v0 v1 v2 : Value} {d0 d1 d2 : DataW H} {p0 p1 p2 : List MemPlace}
    (h0 : DataW.Trod enc Try.prog w base spare held 41 v0 d0 p0) (hw0 : (d0.weights Try.prog 41).all (· ≤ reachBytes) = true)
    (h1 : DataW.Trod enc Try.prog w base spare held 38 v1 d1 p1) (hw1 : (d1.weights Try.prog 38).all (· ≤ reachBytes) = true) (hs1 : ∃ a len cap, v1 = Value.slice a len cap)
    (h2 : DataW.Trod enc Try.prog w base spare held 42 v2 d2 p2) (hw2 : (d2.weights Try.prog 42).all (· ≤ reachBytes) = true) (hs2 : ∃ n, v2 = Value.int .u64 n)
    (hu : Rows.uptoSmall H [d0, d1, d2] = true)
    : Calls Try.prog 5 #[v0, v1, v2] w fun e w' => e = .returned (.bool true) ∧ Below w.heap.size w w' := by
  obtain ⟨x0, hx0, hb0⟩ := open_draft h0 hw0
  obtain ⟨x1, hx1, hb1, hc1⟩ := open_bytes h1 hw1 hs1
  obtain ⟨x2, hx2, hb2⟩ := open_u64 h2 hw2 hs2
  refine ((h x0 x1 x2 hb0 hb1 (bulk_list hu (by simp) hc1) hb2).2 w (fun _ => False) #[v0, v1, v2] (fun b hb => hb.elim) rfl (fun j s u hs hu => ?_)).mono ?_
  · match j, hs, hu with
    | 0, hs, hu =>
      simp at hs hu
      subst hs hu
      exact hx0
    | 1, hs, hu =>
      simp at hs hu
      subst hs hu
      exact hx1
    | 2, hs, hu =>
      simp at hs hu
      subst hs hu
      exact hx2
    | j + 3, hs, _ => simp at hs
  · rintro e w' ⟨u, rfl, hu, hbel⟩
    obtain ⟨c, hc, hc2⟩ := hu
    simp at hc
    subst hc
    cases hc2
    exact ⟨rfl, hbel⟩

set_option maxRecDepth 100000 in
theorem lifted (law : Law) (os : Os) (started : os.Started) (H : Type) (enc : TypeId × Value → H) (F : Stop.Interp) :
    ReturnsInHanded {} Try.checked os 5 .any ((Rows.OpenSpec.upto Rows.complementCoversSpec).pre6 enc Try.prog Try.f5 Rows.complementCoversUptoRow.domain false) (((Rows.OpenSpec.upto Rows.complementCoversSpec).at F).post enc Try.prog Try.f5 false true false false) := by
  refine returnsInHanded_of_cond_sized (C := Try.checked) (s := Rows.OpenSpec.upto Rows.complementCoversSpec) (k := Rows.uptoSmall) rfl own started (by kernel_rfl) Try.func5
    (OpenSpec.witness (enc := enc) (C := Try.checked) (s := Rows.OpenSpec.upto Rows.complementCoversSpec) (k := Rows.uptoSmall) rfl false ⟨#[], #[.agg #[.slice none 0 0, .slice none 0 0], .slice none 0 0, .int .u64 0], []⟩ 8 (by kernel_rfl) (by kernel_rfl) (by kernel_rfl) (x := ([.agg [.nil, .nil], .nil, .lit (.int .u64 0)], [], [])) (by kernel_rfl) rfl (by kernel_rfl)) ?_
  intro W base args ds gs before hval0 hW hcnd hk hsz0 _
  have hsz : (DataW.weightsEach Try.prog (Try.f5.params.toList ++ Rows.complementCoversSpec.plain.varTypes Try.prog) (ds ++ gs)).all (· ≤ reachBytes) = true := hsz0
  have hW' := hW
  obtain ⟨p, q, hA0, hV, rfl, hfz, hnd⟩ := hW
  have hA : DataW.TrodAll enc Try.prog W 0 (fun _ => true) true Try.f5.params.toList args.toList ds p := hA0
  rw [Try.params5] at hA hsz
  obtain ⟨v0, vs0, d0, ds0, p0, q0, hargs0, rfl, rfl, h0, r0⟩ := trodAll_cons hA
  obtain ⟨v1, vs1, d1, ds1, p1, q1, hargs1, rfl, rfl, h1, r1⟩ := trodAll_cons r0
  obtain ⟨v2, vs2, d2, ds2, p2, q2, hargs2, rfl, rfl, h2, r2⟩ := trodAll_cons r1
  obtain ⟨rfl, rfl, rfl⟩ := trodAll_nil r2
  obtain rfl : args = #[v0, v1, v2] := by cases args; simp_all
  obtain ⟨rfl, rfl⟩ := trodVars_none hV
  have hw0 : (d0.weights Try.prog 41).all (· ≤ reachBytes) = true := by
    refine List.all_eq_true.2 fun n hn => List.all_eq_true.1 hsz n ?_
    exact DataW.weights_mem_each (j := 0) (t := 41) (d := d0) rfl rfl n hn
  have lt0 : ∀ x ∈ p0, x.block < W.heap.size := by obtain ⟨m, hm⟩ := h0; exact DataW.trod_lt m _ _ _ hm
  have hw1 : (d1.weights Try.prog 38).all (· ≤ reachBytes) = true := by
    refine List.all_eq_true.2 fun n hn => List.all_eq_true.1 hsz n ?_
    exact DataW.weights_mem_each (j := 1) (t := 38) (d := d1) rfl rfl n hn
  have lt1 : ∀ x ∈ p1, x.block < W.heap.size := by obtain ⟨m, hm⟩ := h1; exact DataW.trod_lt m _ _ _ hm
  have hw2 : (d2.weights Try.prog 42).all (· ≤ reachBytes) = true := by
    refine List.all_eq_true.2 fun n hn => List.all_eq_true.1 hsz n ?_
    exact DataW.weights_mem_each (j := 2) (t := 42) (d := d2) rfl rfl n hn
  have lt2 : ∀ x ∈ p2, x.block < W.heap.size := by obtain ⟨m, hm⟩ := h2; exact DataW.trod_lt m _ _ _ hm
  have hs1 := okWide_slice Try.underlying38 (hval0 1 _ _ (by rw [← Array.getElem?_toList, Try.params5]; rfl) rfl)
  have hs2 := okWide_int Try.underlying42 (hval0 2 _ _ (by rw [← Array.getElem?_toList, Try.params5]; rfl) rfl)
  clear hA0 hval0 hsz0 hsz
  show Calls Try.prog 5 #[v0, v1, v2] W fun e W' => ∃ v, e = .returned v ∧ Rows.complementCoversSpec.post enc Try.prog Try.f5 false true false false W #[v0, v1, v2] v W'
  refine (calls law h0 hw0 h1 hw1 hs1 h2 hw2 hs2 (by simpa using hk)).mono fun e W' ⟨he, bel⟩ => ?_
  subst he
  exact ⟨_, rfl, _, _, _, [], _, [], hW', trodAll_mk1 (shut_bool Try.underlying4 _), (trodAll_cons_mk (Below.trod laidOut (by kernel_rfl) (of_decide_eq_true (by kernel_rfl)) h0 bel lt0) (trodAll_cons_mk (Below.trod laidOut (by kernel_rfl) (of_decide_eq_true (by kernel_rfl)) h1 bel lt1) (trodAll_cons_mk (Below.trod laidOut (by kernel_rfl) (of_decide_eq_true (by kernel_rfl)) h2 bel lt2) trodAll_mk0))), rfl, bel.frame _, fun h => by cases h⟩

theorem over (law : Law) : Rows.complementCoversUptoRow.holds Try.pinned (Rows.OpenSpec.upto Rows.complementCoversSpec) :=
  OpenClaim.holds_of_cond 5 Try.f5 rfl rfl rfl rfl rfl rfl rfl ⟨rfl, rfl, rfl, rfl, rfl⟩ rfl rfl rfl rfl rfl (by kernel_rfl) Try.func5 (by kernel_rfl)
    (of_decide_eq_true (by kernel_rfl)) (by unfold Func.isWrapper; first | (rw [if_pos (by decide +kernel)]; kernel_rfl) | (rw [if_neg (by decide +kernel)]; exact ⟨rfl, rfl⟩))
    (fun os started H enc _ F => lifted law os started H enc F)
end complementCovers
end Go.Proofs.Ythapbbpdcjmmfaa

/- ComplementCovers answers true where the arguments are of bulk at most 1048576. -/
namespace Go.Proofs.Ythapbbpdcjmmfaa
open Abs
theorem complementCovers_upto : Rows.ComplementCoversUptoSaid := complementCovers.over fun d c s hd hc hn _ => lawCovers_ok d c s hd hn hc.1
end Go.Proofs.Ythapbbpdcjmmfaa
