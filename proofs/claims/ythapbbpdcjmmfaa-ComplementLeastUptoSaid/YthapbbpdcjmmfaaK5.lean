/-
  Joined texts: the theorem of this claim and its last steps. No condition beyond those that each statement names.
-/
import Derived.Test.YthapbbpdcjmmfaaK4
import Derived.Test.YthapbbpdcjmmfaaProg
import Derived.KernelRfl
import Derived.Test.YthapbbpdcjmmfaaRows
import Derived.JoinedCond
import Derived.Deep.CondSized
/- Plain laws on pushouts and pullbacks of functions between the numbers below bounds. -/
namespace Go.Proofs.Ythapbbpdcjmmfaa.Po
set_option linter.unusedVariables false

/-- f takes the numbers below n to numbers below m. -/
def Maps (n m : Nat) (f : Nat → Nat) : Prop := ∀ i, i < n → f i < m

structure PO (nA nB nC nD : Nat) (f g h k : Nat → Nat) : Prop where
  comm : ∀ a, a < nA → h (f a) = k (g a)
  cover : ∀ d, d < nD → (∃ b, b < nB ∧ h b = d) ∨ (∃ c, c < nC ∧ k c = d)
  univ : ∀ φ ψ : Nat → Nat, (∀ a, a < nA → φ (f a) = ψ (g a)) → ∃ u : Nat → Nat, (∀ b, b < nB → u (h b) = φ b) ∧ (∀ c, c < nC → u (k c) = ψ c)

structure PB (nA nB nC : Nat) (f g h k : Nat → Nat) : Prop where
  comm : ∀ a, a < nA → h (f a) = k (g a)
  ex : ∀ b c, b < nB → c < nC → h b = k c → ∃ a, a < nA ∧ f a = b ∧ g a = c
  uniq : ∀ a a', a < nA → a' < nA → f a = f a' → g a = g a' → a = a'

theorem PO.symm {nA nB nC nD : Nat} {f g h k : Nat → Nat} (p : PO nA nB nC nD f g h k) : PO nA nC nB nD g f k h where
  comm := fun a ha => (p.comm a ha).symm
  cover := fun d hd => (p.cover d hd).symm
  univ := fun φ ψ hc => by
    obtain ⟨u, h1, h2⟩ := p.univ ψ φ (fun a ha => (hc a ha).symm)
    exact ⟨u, h2, h1⟩

theorem PB.symm {nA nB nC : Nat} {f g h k : Nat → Nat} (p : PB nA nB nC f g h k) : PB nA nC nB g f k h where
  comm := fun a ha => (p.comm a ha).symm
  ex := fun b c hb hc e => by
    obtain ⟨a, h1, h2, h3⟩ := p.ex c b hc hb e.symm
    exact ⟨a, h1, h3, h2⟩
  uniq := fun a a' h1 h2 e1 e2 => p.uniq a a' h1 h2 e2 e1

/-- Only the values below the bounds count. -/
theorem PO.congr {nA nB nC nD : Nat} {f g h k f' g' h' k' : Nat → Nat} (p : PO nA nB nC nD f g h k) (mf : Maps nA nB f) (mg : Maps nA nC g)
    (ef : ∀ i, i < nA → f' i = f i) (eg : ∀ i, i < nA → g' i = g i) (eh : ∀ i, i < nB → h' i = h i) (ek : ∀ i, i < nC → k' i = k i) : PO nA nB nC nD f' g' h' k' where
  comm := fun a ha => by rw [ef a ha, eg a ha, eh _ (mf a ha), ek _ (mg a ha)]; exact p.comm a ha
  cover := fun d hd => by
    rcases p.cover d hd with ⟨b, hb, e⟩ | ⟨c, hc, e⟩
    · exact .inl ⟨b, hb, by rw [eh b hb]; exact e⟩
    · exact .inr ⟨c, hc, by rw [ek c hc]; exact e⟩
  univ := fun φ ψ hc => by
    obtain ⟨u, h1, h2⟩ := p.univ φ ψ (fun a ha => by rw [← ef a ha, ← eg a ha]; exact hc a ha)
    exact ⟨u, fun b hb => by rw [eh b hb]; exact h1 b hb, fun c hc => by rw [ek c hc]; exact h2 c hc⟩

theorem PB.congr {nA nB nC : Nat} {f g h k f' g' h' k' : Nat → Nat} (p : PB nA nB nC f g h k) (mf : Maps nA nB f) (mg : Maps nA nC g)
    (ef : ∀ i, i < nA → f' i = f i) (eg : ∀ i, i < nA → g' i = g i) (eh : ∀ i, i < nB → h' i = h i) (ek : ∀ i, i < nC → k' i = k i) : PB nA nB nC f' g' h' k' where
  comm := fun a ha => by rw [ef a ha, eg a ha, eh _ (mf a ha), ek _ (mg a ha)]; exact p.comm a ha
  ex := fun b c hb hc e => by
    rw [eh b hb, ek c hc] at e
    obtain ⟨a, ha, h1, h2⟩ := p.ex b c hb hc e
    exact ⟨a, ha, by rw [ef a ha]; exact h1, by rw [eg a ha]; exact h2⟩
  uniq := fun a a' h1 h2 e1 e2 => by
    rw [ef a h1, ef a' h2] at e1
    rw [eg a h1, eg a' h2] at e2
    exact p.uniq a a' h1 h2 e1 e2

/-- The outer square of two pushouts is a pushout. -/
theorem po_paste {nA nB nC nD nE nF : Nat} {f g h k f2 h2 k2 : Nat → Nat} (p : PO nA nB nC nD f g h k) (q : PO nB nE nD nF f2 h h2 k2)
    (mf : Maps nA nB f) (mg : Maps nA nC g) (mh : Maps nB nD h) (mk : Maps nC nD k) (mf2 : Maps nB nE f2) :
    PO nA nE nC nF (fun a => f2 (f a)) g h2 (fun c => k2 (k c)) where
  comm := fun a ha => by
    show h2 (f2 (f a)) = k2 (k (g a))
    rw [q.comm (f a) (mf a ha), p.comm a ha]
  cover := fun d hd => by
    rcases q.cover d hd with ⟨b, hb, e⟩ | ⟨c, hc, e⟩
    · exact .inl ⟨b, hb, e⟩
    · rcases p.cover c hc with ⟨b, hb, e'⟩ | ⟨c', hc', e'⟩
      · refine .inl ⟨f2 b, ?_, ?_⟩
        · exact mf2 b hb
        · rw [q.comm b hb, e', e]
      · exact .inr ⟨c', hc', by show k2 (k c') = d; rw [e', e]⟩
  univ := fun φ ψ hc => by
    obtain ⟨u, h1, h2⟩ := p.univ (fun b => φ (f2 b)) ψ hc
    obtain ⟨v, h3, h4⟩ := q.univ φ u (fun b hb => (h1 b hb).symm)
    exact ⟨v, h3, fun c hc => by rw [h4 (k c) (mk c hc)]; exact h2 c hc⟩

/-- If the outer square and the first one are pushouts, so is the second one. -/
theorem po_second {nA nB nC nD nE nF : Nat} {f g h k f2 h2 k2 : Nat → Nat} (p : PO nA nB nC nD f g h k)
    (o : PO nA nE nC nF (fun a => f2 (f a)) g h2 (fun c => k2 (k c)))
    (cm : ∀ b, b < nB → h2 (f2 b) = k2 (h b)) (mf : Maps nA nB f) (mg : Maps nA nC g) (mk : Maps nC nD k) (mf2 : Maps nB nE f2) : PO nB nE nD nF f2 h h2 k2 where
  comm := cm
  cover := fun d hd => by
    rcases o.cover d hd with ⟨b, hb, e⟩ | ⟨c, hc, e⟩
    · exact .inl ⟨b, hb, e⟩
    · exact .inr ⟨k c, mk c hc, e⟩
  univ := fun φ u hc => by
    obtain ⟨v, h3, h4⟩ := o.univ φ (fun c => u (k c)) (fun a ha => by
      show φ (f2 (f a)) = u (k (g a))
      rw [hc (f a) (mf a ha), p.comm a ha])
    refine ⟨v, h3, fun d hd => ?_⟩
    rcases p.cover d hd with ⟨b, hb, e⟩ | ⟨c, hc', e⟩
    · rw [← e, ← cm b hb, h3 _ (mf2 b hb), hc b hb]
    · rw [← e]; exact h4 c hc'

open Classical in
/-- A pushout that is pulled back along m is a pushout. -/
theorem po_lift {nA nB nC nD nX nA' nB' nC' : Nat} {f g h k m pa xa pb xb pc xc f' g' : Nat → Nat} (p : PO nA nB nC nD f g h k)
    (mf : Maps nA nB f) (mg : Maps nA nC g) (mm : Maps nX nD m)
    (B : PB nB' nB nX pb xb h m) (C : PB nC' nC nX pc xc k m) (A : PB nA' nA nX pa xa (fun a => h (f a)) m)
    (mpb : Maps nB' nB pb) (mxb : Maps nB' nX xb) (mpc : Maps nC' nC pc) (mxc : Maps nC' nX xc) (mpa : Maps nA' nA pa)
    (mf' : Maps nA' nB' f') (mg' : Maps nA' nC' g')
    (ef : ∀ a, a < nA' → pb (f' a) = f (pa a)) (ef2 : ∀ a, a < nA' → xb (f' a) = xa a)
    (eg : ∀ a, a < nA' → pc (g' a) = g (pa a)) (eg2 : ∀ a, a < nA' → xc (g' a) = xa a) : PO nA' nB' nC' nX f' g' xb xc where
  comm := fun a ha => by rw [ef2 a ha, eg2 a ha]
  cover := fun x hx => by
    rcases p.cover (m x) (mm x hx) with ⟨b, hb, e⟩ | ⟨c, hc, e⟩
    · obtain ⟨b', h1, _, h3⟩ := B.ex b x hb hx e
      exact .inl ⟨b', h1, h3⟩
    · obtain ⟨c', h1, _, h3⟩ := C.ex c x hc hx e
      exact .inr ⟨c', h1, h3⟩
  univ := fun φ ψ hc => by
    let φx : Nat → Nat → Nat := fun x b => if e : ∃ b', b' < nB' ∧ pb b' = b ∧ xb b' = x then φ e.choose + 1 else 0
    let ψx : Nat → Nat → Nat := fun x c => if e : ∃ c', c' < nC' ∧ pc c' = c ∧ xc c' = x then ψ e.choose + 1 else 0
    have hφ : ∀ b', b' < nB' → φx (xb b') (pb b') = φ b' + 1 := fun b' hb' => by
      have e : ∃ b'', b'' < nB' ∧ pb b'' = pb b' ∧ xb b'' = xb b' := ⟨b', hb', rfl, rfl⟩
      have := e.choose_spec
      show (if e : ∃ b'', b'' < nB' ∧ pb b'' = pb b' ∧ xb b'' = xb b' then φ e.choose + 1 else 0) = _
      rw [dif_pos e, B.uniq _ _ this.1 hb' this.2.1 this.2.2]
    have hψ : ∀ c', c' < nC' → ψx (xc c') (pc c') = ψ c' + 1 := fun c' hc' => by
      have e : ∃ c'', c'' < nC' ∧ pc c'' = pc c' ∧ xc c'' = xc c' := ⟨c', hc', rfl, rfl⟩
      have := e.choose_spec
      show (if e : ∃ c'', c'' < nC' ∧ pc c'' = pc c' ∧ xc c'' = xc c' then ψ e.choose + 1 else 0) = _
      rw [dif_pos e, C.uniq _ _ this.1 hc' this.2.1 this.2.2]
    have cone : ∀ x, x < nX → ∃ u : Nat → Nat, (∀ b, b < nB → u (h b) = φx x b) ∧ (∀ c, c < nC → u (k c) = ψx x c) := fun x hx => by
      refine p.univ _ _ fun a ha => ?_
      by_cases e : h (f a) = m x
      · obtain ⟨a', h1, h2, h3⟩ := A.ex a x ha hx e
        have e1 := hφ (f' a') (mf' a' h1)
        have e2 := hψ (g' a') (mg' a' h1)
        rw [ef a' h1, ef2 a' h1, h2, h3] at e1
        rw [eg a' h1, eg2 a' h1, h2, h3] at e2
        rw [e1, e2, hc a' h1]
      · have n1 : ¬ ∃ b', b' < nB' ∧ pb b' = f a ∧ xb b' = x := by
          rintro ⟨b', h1, h2, h3⟩
          have := B.comm b' h1
          rw [h2, h3] at this
          exact e this
        have n2 : ¬ ∃ c', c' < nC' ∧ pc c' = g a ∧ xc c' = x := by
          rintro ⟨c', h1, h2, h3⟩
          have := C.comm c' h1
          rw [h2, h3, ← p.comm a ha] at this
          exact e this
        show (if e : ∃ b', b' < nB' ∧ pb b' = f a ∧ xb b' = x then φ e.choose + 1 else 0) = (if e : ∃ c', c' < nC' ∧ pc c' = g a ∧ xc c' = x then ψ e.choose + 1 else 0)
        rw [dif_neg n1, dif_neg n2]
    refine ⟨fun x => if e : x < nX then (cone x e).choose (m x) - 1 else 0, fun b hb => ?_, fun c hc => ?_⟩
    · have hx := mxb b hb
      have := (cone _ hx).choose_spec.1 (pb b) (mpb b hb)
      show (if e : xb b < nX then (cone (xb b) e).choose (m (xb b)) - 1 else 0) = φ b
      rw [dif_pos hx, ← B.comm b hb, this, hφ b hb]
      rfl
    · have hx := mxc c hc
      have := (cone _ hx).choose_spec.2 (pc c) (mpc c hc)
      show (if e : xc c < nX then (cone (xc c) e).choose (m (xc c)) - 1 else 0) = ψ c
      rw [dif_pos hx, ← C.comm c hc, this, hψ c hc]
      rfl

open Classical in
/-- A pushout along an injective map is a pullback. -/
theorem po_inj {nA nB nC nD : Nat} {f g h k : Nat → Nat} (p : PO nA nB nC nD f g h k) (mf : Maps nA nB f)
    (inj : ∀ a a', a < nA → a' < nA → f a = f a' → a = a') : PB nA nB nC f g h k where
  comm := p.comm
  uniq := fun a a' h1 h2 e _ => inj a a' h1 h2 e
  ex := fun b c hb hc e => by
    obtain ⟨u, h1, h2⟩ := p.univ (fun b => if e : ∃ a, a < nA ∧ f a = b then g e.choose + 1 else 0) (fun c => c + 1) (fun a ha => by
      have e : ∃ a', a' < nA ∧ f a' = f a := ⟨a, ha, rfl⟩
      show (if e : ∃ a', a' < nA ∧ f a' = f a then g e.choose + 1 else 0) = g a + 1
      rw [dif_pos e, inj _ _ e.choose_spec.1 ha e.choose_spec.2])
    have e1 := h1 b hb
    rw [e, h2 c hc] at e1
    by_cases ex : ∃ a, a < nA ∧ f a = b
    · have e2 : c + 1 = g ex.choose + 1 := by rw [dif_pos ex] at e1; exact e1
      exact ⟨ex.choose, ex.choose_spec.1, ex.choose_spec.2, by omega⟩
    · rw [dif_neg ex] at e1
      omega

open Classical in
/-- Two parts that cover a set: what is kept (F) of L lies in the part (K) of G, and nothing else of L does. -/
theorem po_parts {nF nL nK nG : Nat} {f g m k : Nat → Nat} (cm : ∀ a, a < nF → m (f a) = k (g a))
    (ink : ∀ c c', c < nK → c' < nK → k c = k c' → c = c')
    (cover : ∀ d, d < nG → (∃ b, b < nL ∧ m b = d) ∨ (∃ c, c < nK ∧ k c = d))
    (both : ∀ b c, b < nL → c < nK → m b = k c → ∃ a, a < nF ∧ f a = b ∧ g a = c)
    (one : ∀ b b', b < nL → b' < nL → m b = m b' → b = b' ∨ ∃ c, c < nK ∧ k c = m b) : PO nF nL nK nG f g m k where
  comm := cm
  cover := cover
  univ := fun φ ψ hc => by
    let u : Nat → Nat := fun y => if e : ∃ c, c < nK ∧ k c = y then ψ e.choose else if e : ∃ b, b < nL ∧ m b = y then φ e.choose else 0
    have hk : ∀ c, c < nK → u (k c) = ψ c := fun c hc => by
      have e : ∃ c', c' < nK ∧ k c' = k c := ⟨c, hc, rfl⟩
      show (if e : ∃ c', c' < nK ∧ k c' = k c then ψ e.choose else if e : ∃ b, b < nL ∧ m b = k c then φ e.choose else 0) = ψ c
      rw [dif_pos e, ink _ _ e.choose_spec.1 hc e.choose_spec.2]
    refine ⟨u, fun b hb => ?_, hk⟩
    by_cases e : ∃ c, c < nK ∧ k c = m b
    · obtain ⟨c, h1, h2⟩ := e
      obtain ⟨a, h3, h4, h5⟩ := both b c hb h1 h2.symm
      rw [← h2, hk c h1, ← h5, ← hc a h3, h4]
    · have e2 : ∃ b', b' < nL ∧ m b' = m b := ⟨b, hb, rfl⟩
      show (if e : ∃ c', c' < nK ∧ k c' = m b then ψ e.choose else if e : ∃ b', b' < nL ∧ m b' = m b then φ e.choose else 0) = φ b
      rw [dif_neg e, dif_pos e2]
      rcases one _ _ e2.choose_spec.1 hb e2.choose_spec.2 with h | h
      · rw [h]
      · rw [e2.choose_spec.2] at h
        exact absurd h e

theorem pb_parts {nF nL nK : Nat} {f g m k : Nat → Nat} (cm : ∀ a, a < nF → m (f a) = k (g a))
    (inf : ∀ a a', a < nF → a' < nF → f a = f a' → a = a')
    (both : ∀ b c, b < nL → c < nK → m b = k c → ∃ a, a < nF ∧ f a = b ∧ g a = c) : PB nF nL nK f g m k where
  comm := cm
  ex := both
  uniq := fun a a' h1 h2 e _ => inf a a' h1 h2 e

/-- What mediates from a pushout (E) to a pushout (D) is one to one and onto. -/
theorem po_iso {nA nB nC nD nE : Nat} {f g h k p q m : Nat → Nat} (D : PO nA nB nC nD f g h k) (E : PO nA nB nC nE f g p q)
    (mp : Maps nB nE p) (mq : Maps nC nE q) (hm : ∀ b, b < nB → m (p b) = h b) (km : ∀ c, c < nC → m (q c) = k c) :
    (∀ e e', e < nE → e' < nE → m e = m e' → e = e') ∧ (∀ d, d < nD → ∃ e, e < nE ∧ m e = d) := by
  obtain ⟨u, h1, h2⟩ := D.univ p q E.comm
  have hu : ∀ e, e < nE → u (m e) = e := fun e he => by
    rcases E.cover e he with ⟨b, hb, rfl⟩ | ⟨c, hc, rfl⟩
    · rw [hm b hb, h1 b hb]
    · rw [km c hc, h2 c hc]
  refine ⟨fun e e' he he' eq => ?_, fun d hd => ?_⟩
  · rw [← hu e he, ← hu e' he', eq]
  · rcases D.cover d hd with ⟨b, hb, e⟩ | ⟨c, hc, e⟩
    · exact ⟨p b, mp b hb, by rw [hm b hb, e]⟩
    · exact ⟨q c, mq c hc, by rw [km c hc, e]⟩

open Classical in
/-- What a pushout (E) is taken to, one to one and onto, is a pushout. -/
theorem po_of_iso {nA nB nC nD nE : Nat} {f g h k p q m : Nat → Nat} (E : PO nA nB nC nE f g p q)
    (mp : Maps nB nE p) (mq : Maps nC nE q) (hm : ∀ b, b < nB → m (p b) = h b) (km : ∀ c, c < nC → m (q c) = k c)
    (mf : Maps nA nB f) (mg : Maps nA nC g)
    (inj : ∀ e e', e < nE → e' < nE → m e = m e' → e = e') (sur : ∀ d, d < nD → ∃ e, e < nE ∧ m e = d) : PO nA nB nC nD f g h k where
  comm := fun a ha => by rw [← hm _ (mf a ha), ← km _ (mg a ha), E.comm a ha]
  cover := fun d hd => by
    obtain ⟨e, he, rfl⟩ := sur d hd
    rcases E.cover e he with ⟨b, hb, rfl⟩ | ⟨c, hc, rfl⟩
    · exact .inl ⟨b, hb, (hm b hb).symm⟩
    · exact .inr ⟨c, hc, (km c hc).symm⟩
  univ := fun φ ψ hc => by
    obtain ⟨v, h1, h2⟩ := E.univ φ ψ hc
    have inv : ∀ e, e < nE → ∀ x : ∃ e', e' < nE ∧ m e' = m e, x.choose = e := fun e he x => inj _ _ x.choose_spec.1 he x.choose_spec.2
    refine ⟨fun d => if x : ∃ e, e < nE ∧ m e = d then v x.choose else 0, fun b hb => ?_, fun c hc => ?_⟩
    · have x : ∃ e, e < nE ∧ m e = m (p b) := ⟨_, mp b hb, rfl⟩
      rw [← hm b hb]
      show (if x : ∃ e, e < nE ∧ m e = m (p b) then v x.choose else 0) = φ b
      rw [dif_pos x, inv _ (mp b hb) x, h1 b hb]
    · have x : ∃ e, e < nE ∧ m e = m (q c) := ⟨_, mq c hc, rfl⟩
      rw [← km c hc]
      show (if x : ∃ e, e < nE ∧ m e = m (q c) then v x.choose else 0) = ψ c
      rw [dif_pos x, inv _ (mq c hc) x, h2 c hc]

/-- A cone is a pullback exactly if what mediates to a pullback (E) is one to one and onto. -/
theorem pb_iso {nA nB nC nE : Nat} {f g h k p q m : Nat → Nat} (A : PB nA nB nC f g h k) (E : PB nE nB nC p q h k)
    (mp : Maps nE nB p) (mq : Maps nE nC q) (mm : Maps nA nE m) (fm : ∀ a, a < nA → p (m a) = f a) (gm : ∀ a, a < nA → q (m a) = g a) :
    (∀ a a', a < nA → a' < nA → m a = m a' → a = a') ∧ (∀ e, e < nE → ∃ a, a < nA ∧ m a = e) := by
  refine ⟨fun a a' ha ha' e => A.uniq a a' ha ha' (by rw [← fm a ha, ← fm a' ha', e]) (by rw [← gm a ha, ← gm a' ha', e]), fun e he => ?_⟩
  obtain ⟨a, h1, h2, h3⟩ := A.ex (p e) (q e) (mp e he) (mq e he) (E.comm e he)
  exact ⟨a, h1, E.uniq _ _ (mm a h1) he (by rw [fm a h1, h2]) (by rw [gm a h1, h3])⟩

theorem pb_of_iso {nA nB nC nE : Nat} {f g h k p q m : Nat → Nat} (E : PB nE nB nC p q h k)
    (mm : Maps nA nE m) (fm : ∀ a, a < nA → p (m a) = f a) (gm : ∀ a, a < nA → q (m a) = g a)
    (inj : ∀ a a', a < nA → a' < nA → m a = m a' → a = a') (sur : ∀ e, e < nE → ∃ a, a < nA ∧ m a = e) : PB nA nB nC f g h k where
  comm := fun a ha => by rw [← fm a ha, ← gm a ha, E.comm _ (mm a ha)]
  ex := fun b c hb hc e => by
    obtain ⟨x, h1, h2, h3⟩ := E.ex b c hb hc e
    obtain ⟨a, ha, rfl⟩ := sur x h1
    exact ⟨a, ha, by rw [← fm a ha, h2], by rw [← gm a ha, h3]⟩
  uniq := fun a a' ha ha' e1 e2 => inj a a' ha ha' (E.uniq _ _ (mm a ha) (mm a' ha') (by rw [fm a ha, fm a' ha', e1]) (by rw [gm a ha, gm a' ha', e2]))
end Go.Proofs.Ythapbbpdcjmmfaa.Po

/- The standard pushout is a pushout; what mediates out of it. No program in sight. -/
namespace Go.Proofs.Ythapbbpdcjmmfaa
open Abs Po
set_option linter.unusedSimpArgs false
set_option linter.unusedVariables false

/-- A list of numbers as a function. -/
def fn (l : List Int) (i : Nat) : Nat := (nth l i).toNat
theorem fn_at {l : List Int} {n i : Nat} (h : placesIn l n) (hi : i < l.length) : nth l i = (fn l i : Nat) ∧ fn l i < n := by
  have := h _ (nth_mem hi)
  simp only [fn]
  omega
theorem fn_maps {l : List Int} {n m : Nat} (h : placesIn l n) (hl : l.length = m) : Maps m n (fn l) := fun i hi => (fn_at h (by omega)).2
theorem fn_thru {a b : List Int} {i : Nat} (h : i < a.length) : fn (thru a b) i = fn b (fn a i) := by simp only [fn, thru_nth h]
theorem fn_num {a n i : Nat} (h : i < n) : fn (numL a n) i = a + i := by simp only [fn, numL_nth h, Int.toNat_natCast]

theorem cls_surj {p : List Int} : ∀ {n d : Nat}, d < clsN p n → ∃ r : Nat, r < n ∧ nth p r = r ∧ clsN p r = d
  | 0, d, h => absurd h (by simp [clsN])
  | n + 1, d, h => by
    simp only [clsN] at h
    by_cases e : nth p n = n
    · rw [if_pos e] at h
      by_cases e2 : d < clsN p n
      · obtain ⟨r, h1, h2, h3⟩ := cls_surj e2
        exact ⟨r, by omega, h2, h3⟩
      · exact ⟨n, by omega, e, by omega⟩
    · rw [if_neg e] at h
      obtain ⟨r, h1, h2, h3⟩ := cls_surj h
      exact ⟨r, by omega, h2, h3⟩
theorem cls_inj {p : List Int} {a b : Nat} (ha : nth p a = a) (hb : nth p b = b) (h : clsN p a = clsN p b) : a = b := by
  rcases Nat.lt_trichotomy a b with e | e | e
  · have := clsN_lt ha e
    omega
  · exact e
  · have := clsN_lt hb e
    omega
/-- The root of an element's class. -/
theorem root_of {p : List Int} {n i : Nat} (hp : Flat p) (hn : p.length = n) (hi : i < n) : ∃ r : Nat, nth p i = r ∧ r < n ∧ nth p r = r := by
  obtain ⟨j, hj, hle⟩ := hp.fo.at (i := i) (by omega)
  have := hp.fx i (by omega)
  rw [hj, Int.toNat_natCast] at this
  exact ⟨j, hj, by omega, this⟩

section lists
variable {nA nB nC : Nat} {F G : List Int}
def glL (nA nB nC : Nat) (F G : List Int) : List (Int × Int) := pgK F G (numL 0 nB) (numL nB nC) nA
theorem glL_in (lF : F.length = nA) (lG : G.length = nA) (pF : placesIn F nB) (pG : placesIn G nC) : pairsIn (glL nA nB nC F G) (nB + nC) := fun q hq => by
  simp only [glL, pgK, List.mem_map, List.mem_range] at hq
  obtain ⟨i, hi, rfl⟩ := hq
  obtain ⟨a1, a2⟩ := fn_at pF (show i < F.length by omega)
  obtain ⟨b1, b2⟩ := fn_at pG (show i < G.length by omega)
  simp only [a1, b1, Int.toNat_natCast]
  rw [numL_nth a2, numL_nth b2]
  omega
theorem glL_at (lF : F.length = nA) (lG : G.length = nA) (pF : placesIn F nB) (pG : placesIn G nC) {i : Nat} (hi : i < nA) : (((fn F i : Nat) : Int), ((nB + fn G i : Nat) : Int)) ∈ glL nA nB nC F G := by
  simp only [glL, pgK, List.mem_map, List.mem_range]
  obtain ⟨a1, a2⟩ := fn_at pF (show i < F.length by omega)
  obtain ⟨b1, b2⟩ := fn_at pG (show i < G.length by omega)
  refine ⟨i, hi, ?_⟩
  simp only [a1, b1, Int.toNat_natCast]
  rw [numL_nth a2, numL_nth b2]
  simp
theorem glL_mem (lF : F.length = nA) (lG : G.length = nA) (pF : placesIn F nB) (pG : placesIn G nC) {q : Int × Int} (hq : q ∈ glL nA nB nC F G) : ∃ i, i < nA ∧ q = (((fn F i : Nat) : Int), ((nB + fn G i : Nat) : Int)) := by
  simp only [glL, pgK, List.mem_map, List.mem_range] at hq
  obtain ⟨i, hi, rfl⟩ := hq
  obtain ⟨a1, a2⟩ := fn_at pF (show i < F.length by omega)
  obtain ⟨b1, b2⟩ := fn_at pG (show i < G.length by omega)
  refine ⟨i, hi, ?_⟩
  simp only [a1, b1, Int.toNat_natCast]
  rw [numL_nth a2, numL_nth b2]
  simp
def prt (nA nB nC : Nat) (F G : List Int) : List Int := genL (nB + nC) (glL nA nB nC F G)
def qL (nA nB nC : Nat) (F G : List Int) : List Int := thru (numL 0 nB) (quotL (prt nA nB nC F G))
def qR (nA nB nC : Nat) (F G : List Int) : List Int := thru (numL nB nC) (quotL (prt nA nB nC F G))
theorem prt_len : (prt nA nB nC F G).length = nB + nC := genL_len
theorem qL_at {b : Nat} (hb : b < nB) : fn (qL nA nB nC F G) b = clsN (prt nA nB nC F G) (nth (prt nA nB nC F G) b).toNat := by
  rw [qL, fn_thru (by rw [numL_len]; exact hb), fn_num hb, Nat.zero_add, fn, quotL_nth (by rw [prt_len]; omega), Int.toNat_natCast]
theorem qR_at {c : Nat} (hc : c < nC) : fn (qR nA nB nC F G) c = clsN (prt nA nB nC F G) (nth (prt nA nB nC F G) (nB + c)).toNat := by
  rw [qR, fn_thru (by rw [numL_len]; exact hc), fn_num hc, fn, quotL_nth (by rw [prt_len]; omega), Int.toNat_natCast]

open Classical in
/-- The standard pushout of lists of numbers is one. -/
theorem po_lists (lF : F.length = nA) (lG : G.length = nA) (pF : placesIn F nB) (pG : placesIn G nC) :
    PO nA nB nC (clsN (prt nA nB nC F G) (nB + nC)) (fn F) (fn G) (fn (qL nA nB nC F G)) (fn (qR nA nB nC F G)) := by
  have hin := glL_in lF lG pF pG
  have hp : Flat (prt nA nB nC F G) := genL_flat hin
  refine ⟨fun a ha => ?_, fun d hd => ?_, fun φ ψ hc => ?_⟩
  · obtain ⟨_, a2⟩ := fn_at pF (show a < F.length by omega)
    obtain ⟨_, b2⟩ := fn_at pG (show a < G.length by omega)
    rw [qL_at a2, qR_at b2]
    have := genL_pair hin (glL_at lF lG pF pG ha)
    simp only [Int.toNat_natCast] at this
    rw [← prt] at this
    rw [this]
  · obtain ⟨r, h1, h2, h3⟩ := cls_surj hd
    by_cases hb : r < nB
    · exact .inl ⟨r, hb, by rw [qL_at hb, h2, Int.toNat_natCast, h3]⟩
    · refine .inr ⟨r - nB, by omega, ?_⟩
      rw [qR_at (by omega), show nB + (r - nB) = r by omega, h2, Int.toNat_natCast, h3]
  · let f : Nat → Nat := fun i => if i < nB then φ i else ψ (i - nB)
    have hf : ∀ i, i < nB + nC → f (nth (prt nA nB nC F G) i).toNat = f i := fun i hi => genL_inv hin (fun q hq => by
      obtain ⟨j, hj, rfl⟩ := glL_mem lF lG pF pG hq
      obtain ⟨_, a2⟩ := fn_at pF (show j < F.length by omega)
      simp only [Int.toNat_natCast, f]
      rw [if_pos a2, if_neg (by omega), show nB + fn G j - nB = fn G j by omega]
      exact hc j hj) hi
    let u : Nat → Nat := fun d => if e : ∃ r : Nat, nth (prt nA nB nC F G) r = r ∧ clsN (prt nA nB nC F G) r = d then f e.choose else 0
    have hu : ∀ i, i < nB + nC → u (clsN (prt nA nB nC F G) (nth (prt nA nB nC F G) i).toNat) = f i := fun i hi => by
      obtain ⟨r, h1, h2, h3⟩ := root_of hp prt_len hi
      have e : ∃ r' : Nat, nth (prt nA nB nC F G) r' = r' ∧ clsN (prt nA nB nC F G) r' = clsN (prt nA nB nC F G) r := ⟨r, h3, rfl⟩
      have h4 := hf i hi
      rw [h1, Int.toNat_natCast] at h4
      rw [h1, Int.toNat_natCast]
      show (if e : ∃ r' : Nat, nth (prt nA nB nC F G) r' = r' ∧ clsN (prt nA nB nC F G) r' = clsN (prt nA nB nC F G) r then f e.choose else 0) = f i
      rw [dif_pos e, cls_inj e.choose_spec.1 h3 e.choose_spec.2, h4]
    refine ⟨u, fun b hb => ?_, fun c hc' => ?_⟩
    · rw [qL_at hb, hu b (by omega)]
      exact if_pos hb
    · rw [qR_at hc', hu (nB + c) (by omega)]
      simp only [f]
      rw [if_neg (by omega), show nB + c - nB = c by omega]
end lists

/-! ### Writing a list at some places -/
theorem wr_fold {u : Nat → Int} {n : Nat} : ∀ {ws : List (Int × Int)} {o : List Int}, o.length = n → (∀ w ∈ ws, 0 ≤ w.1 ∧ w.1 < n ∧ w.2 = u w.1.toNat) →
    ∀ j, nth (ws.foldl (fun o w => o.set w.1.toNat w.2) o) j = if ∃ w ∈ ws, w.1.toNat = j then u j else nth o j
  | [], o, ho, _, j => by simp
  | w :: r, o, ho, h, j => by
    rw [List.foldl_cons, wr_fold (n := n) (by rw [List.length_set]; exact ho) (fun x hx => h x (List.mem_cons_of_mem _ hx)) j]
    obtain ⟨h1, h2, h3⟩ := h w (List.mem_cons_self ..)
    by_cases e : ∃ x ∈ r, x.1.toNat = j
    · obtain ⟨x, hx, hj⟩ := e
      rw [if_pos ⟨x, hx, hj⟩, if_pos ⟨x, List.mem_cons_of_mem _ hx, hj⟩]
    · rw [if_neg e, nth_set (by omega)]
      by_cases ej : j = w.1.toNat
      · rw [if_pos ej, if_pos ⟨w, List.mem_cons_self .., ej.symm⟩, h3, ej]
      · rw [if_neg ej, if_neg]
        rintro ⟨x, hx, hj⟩
        rcases List.mem_cons.1 hx with rfl | hx
        · exact ej hj.symm
        · exact e ⟨x, hx, hj⟩
theorem wrL_at {u : Nat → Int} {n : Nat} {ws : List (Int × Int)} (h : ∀ w ∈ ws, 0 ≤ w.1 ∧ w.1 < n ∧ w.2 = u w.1.toNat) {w : Int × Int} (hw : w ∈ ws) : nth (wrL n ws) w.1.toNat = w.2 := by
  rw [wrL, wr_fold (n := n) (by simp) h, if_pos ⟨w, hw, rfl⟩, (h w hw).2.2]
end Go.Proofs.Ythapbbpdcjmmfaa

/- The standard pushout of graphs: its morphisms; what mediates out of it; when a cocone is a pushout. No program in sight. -/
namespace Go.Proofs.Ythapbbpdcjmmfaa
open Abs Po
set_option linter.unusedSimpArgs false
set_option linter.unusedVariables false

/-! ### Errors that there are not -/
theorem gErr_of {g : Gr} (h : GrOk g) : gErr g = 0 := by
  have h1 := h.n
  have h2 := h.e
  have b1 : nBad g.nodes = false := by
    rw [nBad, List.any_eq_false]
    intro x hx
    have := h.kinds x hx
    simp [within]
    omega
  have b2 : eBad g.nodes.length g.edges = false := by
    rw [eBad, List.any_eq_false]
    intro e he
    have := h.edges e he
    simp [eOk, within]
    omega
  rw [gErr, if_neg (by omega), b1, b2]
  rfl
theorem mor_zero {a b : Gr} {m : Pa} (h : MorOk a b m) : morErr a b m = 0 := by
  have l1 := h.ln
  have l2 := h.le
  rw [morErr, if_pos (gErr_of h.ga), if_pos (gErr_of h.gb), if_pos (by omega)]
  have e1 : fe (mnF a b m) m.nodes.length = 0 := fe_zero fun i hi => by
    obtain ⟨a1, a2, a3⟩ := h.n i (by omega)
    rw [mnF, if_neg (by omega), if_neg (by omega), if_pos a3]
  have e2 : fe (meF a b m) m.edges.length = 0 := fe_zero fun i hi => by
    obtain ⟨a1, a2, a3, a4, a5⟩ := h.e i (by omega)
    rw [meF, if_neg (by omega), if_neg (by omega), if_pos a3, if_pos a4, if_pos a5]
  rw [if_pos e1, e2]
theorem mor_iff {a b : Gr} {m : Pa} : morErr a b m = 0 ↔ MorOk a b m := ⟨mor_ok, mor_zero⟩

/-- A morphism in functions. -/
structure Hom (a b : Gr) (m : Pa) : Prop where
  ln : m.nodes.length = a.nodes.length
  le : m.edges.length = a.edges.length
  pn : placesIn m.nodes b.nodes.length
  pe : placesIn m.edges b.edges.length
  kn : ∀ i, i < a.nodes.length → nth b.nodes (fn m.nodes i) = nth a.nodes i
  ke : ∀ i, i < a.edges.length → (eth b.edges (fn m.edges i)).t = (eth a.edges i).t ∧ (eth b.edges (fn m.edges i)).f = nth m.nodes (eth a.edges i).f.toNat ∧ (eth b.edges (fn m.edges i)).g = nth m.nodes (eth a.edges i).g.toNat
theorem MorOk.hom {a b : Gr} {m : Pa} (h : MorOk a b m) : Hom a b m := by
  refine ⟨h.ln, h.le, h.rn, h.re, fun i hi => (h.n i hi).2.2, fun i hi => ?_⟩
  obtain ⟨_, _, e1, e2, e3⟩ := h.e i hi
  exact ⟨e1.symm, e2.symm, e3.symm⟩
theorem Hom.ok {a b : Gr} {m : Pa} (h : Hom a b m) (ga : GrOk a) (gb : GrOk b) : MorOk a b m := by
  refine ⟨ga, gb, h.ln, h.le, fun i hi => ?_, fun i hi => ?_⟩
  · have := h.pn _ (nth_mem (l := m.nodes) (k := i) (by rw [h.ln]; exact hi))
    exact ⟨this.1, this.2, h.kn i hi⟩
  · have := h.pe _ (nth_mem (l := m.edges) (k := i) (by rw [h.le]; exact hi))
    obtain ⟨e1, e2, e3⟩ := h.ke i hi
    exact ⟨this.1, this.2, e1.symm, e2.symm, e3.symm⟩
theorem Hom.mn {a b : Gr} {m : Pa} (h : Hom a b m) : Maps a.nodes.length b.nodes.length (fn m.nodes) := fn_maps h.pn h.ln
theorem Hom.me {a b : Gr} {m : Pa} (h : Hom a b m) : Maps a.edges.length b.edges.length (fn m.edges) := fn_maps h.pe h.le

/-- The two squares of functions of a span with a cocone are pushouts. -/
def IsPO (s : Sp) (d : Gr) (h k : Pa) : Prop :=
  PO s.A.nodes.length s.B.nodes.length s.C.nodes.length d.nodes.length (fn s.F.nodes) (fn s.G.nodes) (fn h.nodes) (fn k.nodes) ∧
  PO s.A.edges.length s.B.edges.length s.C.edges.length d.edges.length (fn s.F.edges) (fn s.G.edges) (fn h.edges) (fn k.edges)

theorem poP_prt {s : Sp} : poP s = prt s.F.nodes.length s.B.nodes.length s.C.nodes.length s.F.nodes s.G.nodes := by rw [poP, poU, unG_nlen]; rfl
theorem poQ_prt {s : Sp} : poQ s = prt s.F.edges.length s.B.edges.length s.C.edges.length s.F.edges s.G.edges := by rw [poQ, poU, unG_elen]; rfl
theorem poI_q {s : Sp} : (poI s).nodes = qL s.F.nodes.length s.B.nodes.length s.C.nodes.length s.F.nodes s.G.nodes ∧ (poI s).edges = qL s.F.edges.length s.B.edges.length s.C.edges.length s.F.edges s.G.edges := by
  rw [qL, qL, ← poP_prt, ← poQ_prt]; exact ⟨rfl, rfl⟩
theorem poJ_q {s : Sp} : (poJ s).nodes = qR s.F.nodes.length s.B.nodes.length s.C.nodes.length s.F.nodes s.G.nodes ∧ (poJ s).edges = qR s.F.edges.length s.B.edges.length s.C.edges.length s.F.edges s.G.edges := by
  rw [qR, qR, ← poP_prt, ← poQ_prt]; exact ⟨rfl, rfl⟩
theorem poG_len {s : Sp} : (poG s).nodes.length = clsN (poP s) (s.B.nodes.length + s.C.nodes.length) ∧ (poG s).edges.length = clsN (poQ s) (s.B.edges.length + s.C.edges.length) := by
  rw [poG, quoG_nlen, quoG_elen, poU, unG_nlen, unG_elen]; exact ⟨rfl, rfl⟩
/-- The standard pushout is one. -/
theorem po_std {s : Sp} (ok : SpOk s) : IsPO s (poG s) (poI s) (poJ s) := by
  have l1 := ok.F.ln
  have l2 := ok.F.le
  refine ⟨?_, ?_⟩
  · rw [poI_q.1, poJ_q.1, poG_len.1, poP_prt, ← l1]
    exact po_lists rfl (by rw [ok.G.ln, l1]) ok.F.rn ok.G.rn
  · rw [poI_q.2, poJ_q.2, poG_len.2, poQ_prt, ← l2]
    exact po_lists rfl (by rw [ok.G.le, l2]) ok.F.re ok.G.re

theorem poI_nat {s : Sp} {b : Nat} (hb : b < s.B.nodes.length) : nth (poI s).nodes b = (clsN (poP s) (nth (poP s) b).toNat : Nat) := by
  show nth (thru (numL 0 s.B.nodes.length) (quotL (poP s))) b = _
  rw [thru_nth (by rw [numL_len]; exact hb), numL_nth hb, Int.toNat_natCast, Nat.zero_add, quotL_nth (by rw [poP_len]; omega)]
theorem poJ_nat {s : Sp} {c : Nat} (hc : c < s.C.nodes.length) : nth (poJ s).nodes c = (clsN (poP s) (nth (poP s) (s.B.nodes.length + c)).toNat : Nat) := by
  show nth (thru (numL s.B.nodes.length s.C.nodes.length) (quotL (poP s))) c = _
  rw [thru_nth (by rw [numL_len]; exact hc), numL_nth hc, Int.toNat_natCast, quotL_nth (by rw [poP_len]; omega)]
theorem poI_eat {s : Sp} {b : Nat} (hb : b < s.B.edges.length) : nth (poI s).edges b = (clsN (poQ s) (nth (poQ s) b).toNat : Nat) := by
  show nth (thru (numL 0 s.B.edges.length) (quotL (poQ s))) b = _
  rw [thru_nth (by rw [numL_len]; exact hb), numL_nth hb, Int.toNat_natCast, Nat.zero_add, quotL_nth (by rw [poQ_len]; omega)]
theorem poJ_eat {s : Sp} {c : Nat} (hc : c < s.C.edges.length) : nth (poJ s).edges c = (clsN (poQ s) (nth (poQ s) (s.B.edges.length + c)).toNat : Nat) := by
  show nth (thru (numL s.B.edges.length s.C.edges.length) (quotL (poQ s))) c = _
  rw [thru_nth (by rw [numL_len]; exact hc), numL_nth hc, Int.toNat_natCast, quotL_nth (by rw [poQ_len]; omega)]

theorem poG_node {s : Sp} (ok : SpOk s) {i : Nat} (hi : i < s.B.nodes.length + s.C.nodes.length) : nth (poG s).nodes (clsN (poP s) (nth (poP s) i).toNat) = nth (poU s).nodes i := by
  obtain ⟨r, h1, h2, h3⟩ := root_of (poP_flat ok) poP_len hi
  have hc := poN_const ok i (by rw [poU, unG_nlen]; exact hi)
  rw [h1, Int.toNat_natCast] at hc ⊢
  have := clsF_get (f := nth (poU s).nodes) h3 (k := (poU s).nodes.length) (by rw [poU, unG_nlen]; exact h2)
  rw [← hc]
  show ((collect (clsF (poP s) (nth (poU s).nodes)) (poU s).nodes.length).getD (clsN (poP s) r) 0) = _
  rw [List.getD, this]
  rfl
theorem poG_edge {s : Sp} (ok : SpOk s) {i : Nat} (hi : i < s.B.edges.length + s.C.edges.length) : eth (poG s).edges (clsN (poQ s) (nth (poQ s) i).toNat) = qE (poU s) (poP s) i := by
  obtain ⟨r, h1, h2, h3⟩ := root_of (poQ_flat ok) poQ_len hi
  have hc := poE_const ok i (by rw [poU, unG_elen]; exact hi)
  rw [h1, Int.toNat_natCast] at hc ⊢
  have := clsF_get (f := qE (poU s) (poP s)) h3 (k := (poU s).edges.length) (by rw [poU, unG_elen]; exact h2)
  rw [← hc]
  show ((collect (clsF (poQ s) (qE (poU s) (poP s))) (poU s).edges.length).getD (clsN (poQ s) r) ⟨0, 0, 0⟩) = _
  rw [List.getD, this]
  rfl

theorem poI_hom {s : Sp} (ok : SpOk s) : Hom s.B (poG s) (poI s) := by
  refine ⟨poI_len.1, poI_len.2, poI_nin ok, poI_ein ok, fun i hi => ?_, fun i hi => ?_⟩
  · rw [fn, poI_nat hi, Int.toNat_natCast, poG_node ok (by omega), poU_nL hi]
  · rw [fn, poI_eat hi, Int.toNat_natCast, poG_edge ok (by omega), qE, poU_eL hi]
    obtain ⟨_, _, g1, g2, g3, g4⟩ := ok.F.gb.edges _ (eth_mem hi)
    have l := poP_len (s := s)
    rw [poI_nat (by omega), poI_nat (by omega), quotL_nth (by omega), quotL_nth (by omega)]
    exact ⟨rfl, rfl, rfl⟩
theorem poJ_hom {s : Sp} (ok : SpOk s) : Hom s.C (poG s) (poJ s) := by
  refine ⟨poJ_len.1, poJ_len.2, poJ_nin ok, poJ_ein ok, fun i hi => ?_, fun i hi => ?_⟩
  · rw [fn, poJ_nat hi, Int.toNat_natCast, poG_node ok (by omega), poU_nR hi]
  · rw [fn, poJ_eat hi, Int.toNat_natCast, poG_edge ok (by omega), qE, poU_eR hi]
    obtain ⟨_, _, g1, g2, g3, g4⟩ := ok.G.gb.edges _ (eth_mem hi)
    have l := poP_len (s := s)
    obtain ⟨x, hx⟩ := Int.eq_ofNat_of_zero_le g1
    obtain ⟨y, hy⟩ := Int.eq_ofNat_of_zero_le g3
    have z1 : ((x : Int) + s.B.nodes.length).toNat = s.B.nodes.length + x := by omega
    have z2 : ((y : Int) + s.B.nodes.length).toNat = s.B.nodes.length + y := by omega
    simp only [shiftE, hx, hy, Int.toNat_natCast, z1, z2]
    rw [poJ_nat (by omega), poJ_nat (by omega), quotL_nth (by omega), quotL_nth (by omega)]
    refine ⟨?_, ?_, ?_⟩ <;> first | rfl | trivial
theorem poG_ok {s : Sp} (ok : SpOk s) (hu : unErr s.B s.C = 0) : GrOk (poG s) := by
  have hf := poG_few hu
  have po := po_std ok
  have hi := poI_hom ok
  have hj := poJ_hom ok
  refine ⟨hf.1, hf.2, fun x hx => ?_, fun e he => ?_⟩
  · obtain ⟨d, hd, rfl⟩ := mem_nth hx
    rcases po.1.cover d hd with ⟨b, hb, rfl⟩ | ⟨c, hc, rfl⟩
    · rw [hi.kn b hb]; exact ok.F.gb.kinds _ (nth_mem hb)
    · rw [hj.kn c hc]; exact ok.G.gb.kinds _ (nth_mem hc)
  · obtain ⟨d, hd, rfl⟩ := mem_eth he
    rcases po.2.cover d hd with ⟨b, hb, rfl⟩ | ⟨c, hc, rfl⟩
    · obtain ⟨e1, e2, e3⟩ := hi.ke b hb
      obtain ⟨t1, t2, g1, g2, g3, g4⟩ := ok.F.gb.edges _ (eth_mem hb)
      have l := hi.ln
      have p1 := hi.pn _ (nth_mem (l := (poI s).nodes) (k := (eth s.B.edges b).f.toNat) (by omega))
      have p2 := hi.pn _ (nth_mem (l := (poI s).nodes) (k := (eth s.B.edges b).g.toNat) (by omega))
      rw [e1, e2, e3]
      exact ⟨t1, t2, p1.1, p1.2, p2.1, p2.2⟩
    · obtain ⟨e1, e2, e3⟩ := hj.ke c hc
      obtain ⟨t1, t2, g1, g2, g3, g4⟩ := ok.G.gb.edges _ (eth_mem hc)
      have l := hj.ln
      have p1 := hj.pn _ (nth_mem (l := (poJ s).nodes) (k := (eth s.C.edges c).f.toNat) (by omega))
      have p2 := hj.pn _ (nth_mem (l := (poJ s).nodes) (k := (eth s.C.edges c).g.toNat) (by omega))
      rw [e1, e2, e3]
      exact ⟨t1, t2, p1.1, p1.2, p2.1, p2.2⟩

/-! ### What mediates -/
theorem zip_mem {p h : List Int} (hl : p.length = h.length) {w : Int × Int} : w ∈ p.zip h ↔ ∃ i, i < p.length ∧ w = (nth p i, nth h i) := by
  constructor
  · intro hw
    obtain ⟨i, hi, rfl⟩ := List.mem_iff_getElem.1 hw
    simp only [List.length_zip] at hi
    exact ⟨i, by omega, by rw [List.getElem_zip, nth_eq (by omega), nth_eq (by omega)]⟩
  · rintro ⟨i, hi, rfl⟩
    refine List.mem_iff_getElem.2 ⟨i, by simp; omega, ?_⟩
    rw [List.getElem_zip, nth_eq hi, nth_eq (by omega)]
theorem med_lists {n m nB nC : Nat} {p q h k : List Int} (lp : p.length = nB) (lq : q.length = nC) (lh : h.length = nB) (lk : k.length = nC) (pp : placesIn p n) (pq : placesIn q n) (ph : placesIn h m) (pk : placesIn k m)
    {u : Nat → Nat} (hu : ∀ b, b < nB → u (fn p b) = fn h b) (hv : ∀ c, c < nC → u (fn q c) = fn k c) :
    (∀ b, b < nB → nth (wrL n (p.zip h ++ q.zip k)) (fn p b) = nth h b) ∧ (∀ c, c < nC → nth (wrL n (p.zip h ++ q.zip k)) (fn q c) = nth k c) := by
  have key : ∀ w ∈ p.zip h ++ q.zip k, 0 ≤ w.1 ∧ w.1 < n ∧ w.2 = ((u w.1.toNat : Nat) : Int) := fun w hw => by
    rcases List.mem_append.1 hw with hw | hw
    · obtain ⟨i, hi, rfl⟩ := (zip_mem (by omega)).1 hw
      have h1 := pp _ (nth_mem hi)
      obtain ⟨h2, _⟩ := fn_at ph (show i < h.length by omega)
      exact ⟨h1.1, h1.2, by rw [h2, ← hu i (by omega)]; rfl⟩
    · obtain ⟨i, hi, rfl⟩ := (zip_mem (by omega)).1 hw
      have h1 := pq _ (nth_mem hi)
      obtain ⟨h2, _⟩ := fn_at pk (show i < k.length by omega)
      exact ⟨h1.1, h1.2, by rw [h2, ← hv i (by omega)]; rfl⟩
  refine ⟨fun b hb => ?_, fun c hc => ?_⟩
  · exact wrL_at (u := fun i => (u i : Nat)) key (w := (nth p b, nth h b)) (List.mem_append_left _ ((zip_mem (by omega)).2 ⟨b, by omega, rfl⟩))
  · exact wrL_at (u := fun i => (u i : Nat)) key (w := (nth q c, nth k c)) (List.mem_append_right _ ((zip_mem (by omega)).2 ⟨c, by omega, rfl⟩))

theorem same_thru {a b f g : List Int} (h : thru a f = thru b g) {i : Nat} (ha : i < a.length) (hb : i < b.length) : fn f (fn a i) = fn g (fn b i) := by
  have := congrArg (fun l => (nth l i).toNat) h
  simp only [thru_nth ha, thru_nth hb] at this
  exact this

/-- A cocone: valid morphisms with equal compositions. -/
structure Cone (s : Sp) (d : Gr) (h k : Pa) : Prop where
  ok : SpOk s
  mp : MorOk s.B d h
  mq : MorOk s.C d k
  un : unErr s.B s.C = 0
  cn : ∀ i, i < s.A.nodes.length → fn h.nodes (fn s.F.nodes i) = fn k.nodes (fn s.G.nodes i)
  ce : ∀ i, i < s.A.edges.length → fn h.edges (fn s.F.edges i) = fn k.edges (fn s.G.edges i)
theorem pm_cone {s : Sp} {d : Gr} {h k : Pa} (e : pmE s d h k = 0) : Cone s d h k := by
  obtain ⟨h1, h2, h3, h4, h5⟩ := pmE_ok e
  have ok := spErr_ok h1
  have l1 := ok.F.ln
  have l2 := ok.F.le
  have l3 := ok.G.ln
  have l4 := ok.G.le
  have h6 := sameP_iff.1 h5
  injection h6 with h6 h7
  exact ⟨ok, mor_ok h2, mor_ok h3, h4, fun i hi => same_thru h6 (by omega) (by omega), fun i hi => same_thru h7 (by omega) (by omega)⟩

theorem pm_at {s : Sp} {d : Gr} {h k : Pa} (c : Cone s d h k) :
    ((∀ b, b < s.B.nodes.length → nth (pmC s h k).nodes (fn (poI s).nodes b) = nth h.nodes b) ∧ (∀ b, b < s.C.nodes.length → nth (pmC s h k).nodes (fn (poJ s).nodes b) = nth k.nodes b)) ∧
    ((∀ b, b < s.B.edges.length → nth (pmC s h k).edges (fn (poI s).edges b) = nth h.edges b) ∧ (∀ b, b < s.C.edges.length → nth (pmC s h k).edges (fn (poJ s).edges b) = nth k.edges b)) := by
  have po := po_std c.ok
  have hi := poI_hom c.ok
  have hj := poJ_hom c.ok
  obtain ⟨u, u1, u2⟩ := po.1.univ (fn h.nodes) (fn k.nodes) c.cn
  obtain ⟨v, v1, v2⟩ := po.2.univ (fn h.edges) (fn k.edges) c.ce
  exact ⟨med_lists hi.ln hj.ln c.mp.ln c.mq.ln hi.pn hj.pn c.mp.rn c.mq.rn u1 u2, med_lists hi.le hj.le c.mp.le c.mq.le hi.pe hj.pe c.mp.re c.mq.re v1 v2⟩
theorem pmC_len {s : Sp} {h k : Pa} : (pmC s h k).nodes.length = (poG s).nodes.length ∧ (pmC s h k).edges.length = (poG s).edges.length := ⟨wrL_len, wrL_len⟩
theorem pm_hom {s : Sp} {d : Gr} {h k : Pa} (c : Cone s d h k) : Hom (poG s) d (pmC s h k) := by
  have po := po_std c.ok
  have hi := poI_hom c.ok
  have hj := poJ_hom c.ok
  obtain ⟨⟨n1, n2⟩, e1, e2⟩ := pm_at c
  have hh := c.mp.hom
  have hk := c.mq.hom
  refine ⟨pmC_len.1, pmC_len.2, fun x hx => ?_, fun x hx => ?_, fun i hi' => ?_, fun i hi' => ?_⟩
  · obtain ⟨i, hi', rfl⟩ := mem_nth hx
    rw [pmC_len.1] at hi'
    rcases po.1.cover i hi' with ⟨b, hb, rfl⟩ | ⟨b, hb, rfl⟩
    · rw [n1 b hb]; exact hh.pn _ (nth_mem (by rw [hh.ln]; exact hb))
    · rw [n2 b hb]; exact hk.pn _ (nth_mem (by rw [hk.ln]; exact hb))
  · obtain ⟨i, hi', rfl⟩ := mem_nth hx
    rw [pmC_len.2] at hi'
    rcases po.2.cover i hi' with ⟨b, hb, rfl⟩ | ⟨b, hb, rfl⟩
    · rw [e1 b hb]; exact hh.pe _ (nth_mem (by rw [hh.le]; exact hb))
    · rw [e2 b hb]; exact hk.pe _ (nth_mem (by rw [hk.le]; exact hb))
  · rcases po.1.cover i hi' with ⟨b, hb, rfl⟩ | ⟨b, hb, rfl⟩
    · rw [fn, n1 b hb, hi.kn b hb]; exact hh.kn b hb
    · rw [fn, n2 b hb, hj.kn b hb]; exact hk.kn b hb
  · rcases po.2.cover i hi' with ⟨b, hb, rfl⟩ | ⟨b, hb, rfl⟩
    · obtain ⟨a1, a2, a3⟩ := hi.ke b hb
      obtain ⟨b1, b2, b3⟩ := hh.ke b hb
      obtain ⟨_, _, g1, g2, g3, g4⟩ := c.ok.F.gb.edges _ (eth_mem hb)
      have m1 := n1 (eth s.B.edges b).f.toNat (by omega)
      have m2 := n1 (eth s.B.edges b).g.toNat (by omega)
      rw [fn] at m1 m2
      rw [fn, e1 b hb, a1, a2, a3, m1, m2]
      exact ⟨b1, b2, b3⟩
    · obtain ⟨a1, a2, a3⟩ := hj.ke b hb
      obtain ⟨b1, b2, b3⟩ := hk.ke b hb
      obtain ⟨_, _, g1, g2, g3, g4⟩ := c.ok.G.gb.edges _ (eth_mem hb)
      have m1 := n2 (eth s.C.edges b).f.toNat (by omega)
      have m2 := n2 (eth s.C.edges b).g.toNat (by omega)
      rw [fn] at m1 m2
      rw [fn, e2 b hb, a1, a2, a3, m1, m2]
      exact ⟨b1, b2, b3⟩

/-! ### One to one and onto -/
theorem nodup_fn {l : List Int} {n m : Nat} (hl : l.length = n) (pl : placesIn l m) : l.Nodup ↔ ∀ i j, i < n → j < n → fn l i = fn l j → i = j := by
  rw [List.nodup_iff_pairwise_ne, List.pairwise_iff_getElem]
  constructor
  · intro h i j hi hj e
    have e2 : l[i]'(by omega) = l[j]'(by omega) := by
      rw [← nth_eq, ← nth_eq, (fn_at pl (show i < l.length by omega)).1, (fn_at pl (show j < l.length by omega)).1, e]
    rcases Nat.lt_trichotomy i j with h3 | h3 | h3
    · exact absurd e2 (h i j _ _ h3)
    · exact h3
    · exact absurd e2.symm (h j i _ _ h3)
  · intro h i j hi hj hij e
    have := h i j (by omega) (by omega) (by rw [fn, fn, nth_eq hi, nth_eq hj, e])
    omega
theorem cov_fn {l : List Int} {n m : Nat} (hl : l.length = n) (pl : placesIn l m) : covB l m = true ↔ ∀ d, d < m → ∃ i, i < n ∧ fn l i = d := by
  simp only [covB, decide_eq_true_eq]
  refine forall_congr' fun d => imp_congr_right fun hd => ?_
  constructor
  · intro h
    obtain ⟨i, hi, e⟩ := mem_nth h
    exact ⟨i, by omega, by rw [fn, e]; rfl⟩
  · rintro ⟨i, hi, rfl⟩
    rw [← (fn_at pl (show i < l.length by omega)).1]
    exact nth_mem (by omega)

/-- A cocone is accepted exactly if it is a pushout. -/
theorem poChk_iff {s : Sp} {d : Gr} {h k : Pa} (e : pmE s d h k = 0) : poChk s d h k = true ↔ IsPO s d h k := by
  have c := pm_cone e
  have po := po_std c.ok
  have hm := pm_hom c
  have hi := poI_hom c.ok
  have hj := poJ_hom c.ok
  have em := mor_zero (hm.ok (poG_ok c.ok c.un) c.mp.gb)
  obtain ⟨⟨n1, n2⟩, e1, e2⟩ := pm_at c
  have z1 : ∀ b, b < s.B.nodes.length → fn (pmC s h k).nodes (fn (poI s).nodes b) = fn h.nodes b := fun b hb => by rw [fn, n1 b hb]; rfl
  have z2 : ∀ b, b < s.C.nodes.length → fn (pmC s h k).nodes (fn (poJ s).nodes b) = fn k.nodes b := fun b hb => by rw [fn, n2 b hb]; rfl
  have z3 : ∀ b, b < s.B.edges.length → fn (pmC s h k).edges (fn (poI s).edges b) = fn h.edges b := fun b hb => by rw [fn, e1 b hb]; rfl
  have z4 : ∀ b, b < s.C.edges.length → fn (pmC s h k).edges (fn (poJ s).edges b) = fn k.edges b := fun b hb => by rw [fn, e2 b hb]; rfl
  have key : poChk s d h k = true ↔ (((pmC s h k).nodes.Nodup ∧ (pmC s h k).edges.Nodup) ∧ (covB (pmC s h k).nodes d.nodes.length = true ∧ covB (pmC s h k).edges d.edges.length = true)) := by
    simp [poChk, e, injB, surjB, em]
  rw [key, nodup_fn hm.ln hm.pn, nodup_fn hm.le hm.pe, cov_fn hm.ln hm.pn, cov_fn hm.le hm.pe]
  constructor
  · rintro ⟨⟨a1, a2⟩, b1, b2⟩
    exact ⟨po_of_iso po.1 hi.mn hj.mn z1 z2 c.ok.F.hom.mn c.ok.G.hom.mn a1 b1, po_of_iso po.2 hi.me hj.me z3 z4 c.ok.F.hom.me c.ok.G.hom.me a2 b2⟩
  · rintro ⟨p1, p2⟩
    obtain ⟨a1, b1⟩ := po_iso p1 po.1 hi.mn hj.mn z1 z2
    obtain ⟨a2, b2⟩ := po_iso p2 po.2 hi.me hj.me z3 z4
    exact ⟨⟨a1, a2⟩, b1, b2⟩
end Go.Proofs.Ythapbbpdcjmmfaa

/- The standard pullback of graphs; what mediates into it; when a cone is a pullback. No program in sight. -/
namespace Go.Proofs.Ythapbbpdcjmmfaa
open Abs Po
set_option linter.unusedSimpArgs false
set_option linter.unusedVariables false

theorem collect_pb_nodup {f g : List Int} {i : Nat} : ∀ n, (collect (pbF f g i) n).Nodup ∧ ∀ q ∈ collect (pbF f g i) n, q.1 = i ∧ q.2 < n
  | 0 => ⟨List.nodup_nil, fun q hq => by simp [collect_zero] at hq⟩
  | n + 1 => by
    obtain ⟨h1, h2⟩ := collect_pb_nodup (f := f) (g := g) (i := i) n
    by_cases e : nth f i = nth g n
    · rw [collect_some (x := ((i : Int), (n : Int))) (by rw [pbF, if_pos e])]
      refine ⟨List.nodup_append.2 ⟨h1, by simp, fun a ha b hb => ?_⟩, fun q hq => ?_⟩
      · simp at hb
        subst hb
        rintro rfl
        have := (h2 _ ha).2
        simp at this
      · rcases List.mem_append.1 hq with hq | hq
        · have := h2 q hq
          exact ⟨this.1, by omega⟩
        · simp at hq
          subst hq
          exact ⟨rfl, by show (n : Int) < (n + 1 : Nat); omega⟩
    · rw [collect_none (by rw [pbF, if_neg e])]
      exact ⟨h1, fun q hq => ⟨(h2 q hq).1, by have := (h2 q hq).2; omega⟩⟩
theorem gather_pb_nodup {f g : List Int} : ∀ n, (gather (fun i => collect (pbF f g i) g.length) n).Nodup ∧ ∀ q ∈ gather (fun i => collect (pbF f g i) g.length) n, q.1 < n
  | 0 => ⟨List.nodup_nil, fun q hq => by simp [gather_zero] at hq⟩
  | n + 1 => by
    obtain ⟨h1, h2⟩ := gather_pb_nodup (f := f) (g := g) n
    obtain ⟨k1, k2⟩ := collect_pb_nodup (f := f) (g := g) (i := n) g.length
    rw [gather_succ]
    refine ⟨List.nodup_append.2 ⟨h1, k1, fun a ha b hb => ?_⟩, fun q hq => ?_⟩
    · rintro rfl
      have e1 := h2 _ ha
      have e2 := (k2 _ hb).1
      omega
    · rcases List.mem_append.1 hq with hq | hq
      · have := h2 q hq
        omega
      · have := (k2 q hq).1
        omega
theorem pbP_nodup {f g : List Int} : (pbP f g).Nodup := (gather_pb_nodup f.length).1
theorem pth_inj {l : List (Int × Int)} (h : l.Nodup) {i j : Nat} (hi : i < l.length) (hj : j < l.length) (e : pth l i = pth l j) : i = j := by
  rw [List.nodup_iff_pairwise_ne, List.pairwise_iff_getElem] at h
  rw [pth_eq' hi, pth_eq' hj] at e
  rcases Nat.lt_trichotomy i j with h3 | h3 | h3
  · exact absurd e (h i j hi hj h3)
  · exact h3
  · exact absurd e.symm (h j i hj hi h3)
theorem nth_fst {l : List (Int × Int)} {i : Nat} (h : i < l.length) : nth (fstL l) i = (pth l i).1 := by
  rw [nth_eq (by rw [fstL_len]; exact h), pth_eq' h]; simp [fstL]
theorem nth_snd {l : List (Int × Int)} {i : Nat} (h : i < l.length) : nth (sndL l) i = (pth l i).2 := by
  rw [nth_eq (by rw [sndL_len]; exact h), pth_eq' h]; simp [sndL]

/-- The standard pullback of lists of numbers is one. -/
theorem pb_lists {nB nC m : Nat} {F G : List Int} (lF : F.length = nB) (lG : G.length = nC) (pF : placesIn F m) (pG : placesIn G m) :
    PB (pbP F G).length nB nC (fn (fstL (pbP F G))) (fn (sndL (pbP F G))) (fn F) (fn G) := by
  have at_ : ∀ a, a < (pbP F G).length → ∃ i k : Nat, i < nB ∧ k < nC ∧ nth F i = nth G k ∧ fn (fstL (pbP F G)) a = i ∧ fn (sndL (pbP F G)) a = k ∧ pth (pbP F G) a = ((i : Int), (k : Int)) := fun a ha => by
    obtain ⟨i, k, h1, h2, h3, h4⟩ := mem_pbP.1 (pth_mem ha)
    exact ⟨i, k, by omega, by omega, h3, by rw [fn, nth_fst ha, h4]; rfl, by rw [fn, nth_snd ha, h4]; rfl, h4⟩
  refine ⟨fun a ha => ?_, fun b c hb hc e => ?_, fun a a' ha ha' e1 e2 => ?_⟩
  · obtain ⟨i, k, h1, h2, h3, h4, h5, _⟩ := at_ a ha
    rw [h4, h5, fn, fn, h3]
  · have hm : ((b : Int), (c : Int)) ∈ pbP F G := mem_pbP.2 ⟨b, c, by omega, by omega, by rw [(fn_at pF (show b < F.length by omega)).1, (fn_at pG (show c < G.length by omega)).1, e], rfl⟩
    have h1 := idxP_lt hm
    have h0 := idxP_pos.2 hm
    have h2 := idxP_get hm
    have hl : (idxP (pbP F G) ((b : Int), (c : Int))).toNat < (pbP F G).length := by omega
    exact ⟨_, hl, by rw [fn, nth_fst hl, h2]; rfl, by rw [fn, nth_snd hl, h2]; rfl⟩
  · obtain ⟨i, k, h1, h2, h3, h4, h5, h6⟩ := at_ a ha
    obtain ⟨i', k', h1', h2', h3', h4', h5', h6'⟩ := at_ a' ha'
    refine pth_inj pbP_nodup ha ha' ?_
    rw [h6, h6', ← h4, ← h4', ← h5, ← h5', e1, e2]

/-- The two squares of functions of a cospan with a cone are pullbacks. -/
def IsPB (s : Co) (a : Gr) (h k : Pa) : Prop :=
  PB a.nodes.length s.B.nodes.length s.C.nodes.length (fn h.nodes) (fn k.nodes) (fn s.F.nodes) (fn s.G.nodes) ∧
  PB a.edges.length s.B.edges.length s.C.edges.length (fn h.edges) (fn k.edges) (fn s.F.edges) (fn s.G.edges)

theorem pbG_len {s : Co} : (pbG s).nodes.length = (pbNs s).length ∧ (pbG s).edges.length = (pbEs s).length := by simp [pbG]
theorem pbG_nth {s : Co} {i : Nat} (h : i < (pbNs s).length) : nth (pbG s).nodes i = pbNode s (pth (pbNs s) i) := by
  rw [nth_eq (by rw [pbG_len.1]; exact h), pth_eq' h]; simp [pbG]
theorem pbG_eth {s : Co} {i : Nat} (h : i < (pbEs s).length) : eth (pbG s).edges i = pbEdge s (pth (pbEs s) i) := by
  rw [eth_eq (by rw [pbG_len.2]; exact h), pth_eq' h]; simp [pbG]

def pbDown (c : Co) : Pa := ⟨fstL (pbNs c), fstL (pbEs c)⟩
def pbUpp (c : Co) : Pa := ⟨sndL (pbNs c), sndL (pbEs c)⟩
/-- The standard pullback is one. -/
theorem pb_std {s : Co} (ok : CoOk s) : IsPB s (pbG s) (pbDown s) (pbUpp s) := by
  refine ⟨?_, ?_⟩
  · rw [pbG_len.1]; exact pb_lists ok.F.ln ok.G.ln ok.F.rn ok.G.rn
  · rw [pbG_len.2]; exact pb_lists ok.F.le ok.G.le ok.F.re ok.G.re

/-- The ends of a pair of edges are pairs of nodes. -/
theorem pb_ends {s : Co} (ok : CoOk s) {i k : Nat} (hi : i < s.B.edges.length) (hk : k < s.C.edges.length) (e : nth s.F.edges i = nth s.G.edges k) :
    ((eth s.B.edges i).f, (eth s.C.edges k).f) ∈ pbNs s ∧ ((eth s.B.edges i).g, (eth s.C.edges k).g) ∈ pbNs s := by
  obtain ⟨_, _, t1, u1, v1⟩ := ok.F.e i hi
  obtain ⟨_, _, t2, u2, v2⟩ := ok.G.e k hk
  rw [e] at u1 v1
  obtain ⟨_, _, g1, g2, g3, g4⟩ := ok.F.ga.edges _ (eth_mem hi)
  obtain ⟨_, _, p1, p2, p3, p4⟩ := ok.G.ga.edges _ (eth_mem hk)
  have l1 := ok.F.ln
  have l2 := ok.G.ln
  exact ⟨mem_pbP.2 ⟨(eth s.B.edges i).f.toNat, (eth s.C.edges k).f.toNat, by omega, by omega, by rw [u1, u2], by rw [Int.toNat_of_nonneg g1, Int.toNat_of_nonneg p1]⟩,
    mem_pbP.2 ⟨(eth s.B.edges i).g.toNat, (eth s.C.edges k).g.toNat, by omega, by omega, by rw [v1, v2], by rw [Int.toNat_of_nonneg g3, Int.toNat_of_nonneg p3]⟩⟩

theorem pbG_ok {s : Co} (h : pbErr s = 0) : GrOk (pbG s) := by
  obtain ⟨ok, h1, h2⟩ := pbErr_few h
  refine ⟨by rw [pbG_len.1]; exact h1, by rw [pbG_len.2]; exact h2, fun x hx => ?_, fun e he => ?_⟩
  · obtain ⟨d, hd, rfl⟩ := mem_nth hx
    rw [pbG_len.1] at hd
    obtain ⟨i, k, hi, hk, e⟩ := pbNs_at ok (pth_mem hd)
    rw [pbG_nth hd, e, pbNode]
    exact ok.F.ga.kinds _ (nth_mem hi)
  · obtain ⟨d, hd, rfl⟩ := mem_eth he
    rw [pbG_len.2] at hd
    obtain ⟨i, k, hi, hk, h3, e⟩ := mem_pbP.1 (pth_mem (show d < (pbP s.F.edges s.G.edges).length from hd))
    have e : pth (pbEs s) d = ((i : Int), (k : Int)) := e
    rw [ok.F.le] at hi
    rw [ok.G.le] at hk
    obtain ⟨m1, m2⟩ := pb_ends ok hi hk h3
    obtain ⟨t1, t2, _⟩ := ok.F.ga.edges _ (eth_mem hi)
    have a1 := idxP_pos.2 m1
    have a2 := idxP_lt m1
    have a3 := idxP_pos.2 m2
    have a4 := idxP_lt m2
    rw [pbG_eth hd, e, pbEdge, pbG_len.1]
    exact ⟨t1, t2, a1, a2, a3, a4⟩
theorem pbDown_hom {s : Co} (ok : CoOk s) : Hom (pbG s) s.B (pbDown s) := by
  refine ⟨by rw [pbG_len.1]; exact fstL_len, by rw [pbG_len.2]; exact fstL_len, fun x hx => ?_, fun x hx => ?_, fun i hi => ?_, fun i hi => ?_⟩
  · obtain ⟨q, hq, rfl⟩ := List.mem_map.1 hx
    obtain ⟨i, k, hi, hk, rfl⟩ := pbNs_at ok hq
    exact ⟨by simp, by simpa using hi⟩
  · obtain ⟨q, hq, rfl⟩ := List.mem_map.1 hx
    obtain ⟨i, k, hi, hk, rfl⟩ := pbEs_at ok hq
    exact ⟨by simp, by simpa using hi⟩
  · rw [pbG_len.1] at hi
    rw [pbG_nth hi, pbNode, fn, pbDown, nth_fst hi]
  · rw [pbG_len.2] at hi
    obtain ⟨a, b, ha, hb, h3, e⟩ := mem_pbP.1 (pth_mem (show i < (pbP s.F.edges s.G.edges).length from hi))
    have e : pth (pbEs s) i = ((a : Int), (b : Int)) := e
    rw [ok.F.le] at ha
    rw [ok.G.le] at hb
    obtain ⟨m1, m2⟩ := pb_ends ok ha hb h3
    have a1 := idxP_pos.2 m1
    have a2 := idxP_lt m1
    have a3 := idxP_pos.2 m2
    have a4 := idxP_lt m2
    have q1 := idxP_get m1
    have q2 := idxP_get m2
    rw [pbG_eth hi, e, pbEdge, fn, pbDown, nth_fst hi, e]
    simp only [Int.toNat_natCast]
    rw [nth_fst (by omega), nth_fst (by omega), q1, q2]
    refine ⟨?_, ?_, ?_⟩ <;> first | rfl | trivial
theorem pbUpp_hom {s : Co} (ok : CoOk s) : Hom (pbG s) s.C (pbUpp s) := by
  refine ⟨by rw [pbG_len.1]; exact sndL_len, by rw [pbG_len.2]; exact sndL_len, fun x hx => ?_, fun x hx => ?_, fun i hi => ?_, fun i hi => ?_⟩
  · obtain ⟨q, hq, rfl⟩ := List.mem_map.1 hx
    obtain ⟨i, k, hi, hk, rfl⟩ := pbNs_at ok hq
    exact ⟨by simp, by simpa using hk⟩
  · obtain ⟨q, hq, rfl⟩ := List.mem_map.1 hx
    obtain ⟨i, k, hi, hk, rfl⟩ := pbEs_at ok hq
    exact ⟨by simp, by simpa using hk⟩
  · rw [pbG_len.1] at hi
    obtain ⟨a, b, ha, hb, h3, e⟩ := mem_pbP.1 (pth_mem (show i < (pbP s.F.nodes s.G.nodes).length from hi))
    have e : pth (pbNs s) i = ((a : Int), (b : Int)) := e
    rw [ok.F.ln] at ha
    rw [ok.G.ln] at hb
    have k1 := (ok.F.n a ha).2.2
    have k2 := (ok.G.n b hb).2.2
    rw [pbG_nth hi, pbNode, fn, pbUpp, nth_snd hi, e]
    simp only [Int.toNat_natCast]
    rw [← k1, ← k2, h3]
  · rw [pbG_len.2] at hi
    obtain ⟨a, b, ha, hb, h3, e⟩ := mem_pbP.1 (pth_mem (show i < (pbP s.F.edges s.G.edges).length from hi))
    have e : pth (pbEs s) i = ((a : Int), (b : Int)) := e
    rw [ok.F.le] at ha
    rw [ok.G.le] at hb
    obtain ⟨m1, m2⟩ := pb_ends ok ha hb h3
    have a1 := idxP_pos.2 m1
    have a2 := idxP_lt m1
    have a3 := idxP_pos.2 m2
    have a4 := idxP_lt m2
    have q1 := idxP_get m1
    have q2 := idxP_get m2
    have k1 := (ok.F.e a ha).2.2.1
    have k2 := (ok.G.e b hb).2.2.1
    rw [h3] at k1
    rw [pbG_eth hi, e, pbEdge, fn, pbUpp, nth_snd hi, e]
    simp only [Int.toNat_natCast]
    rw [nth_snd (by omega), nth_snd (by omega), q1, q2, k1, k2]
    refine ⟨?_, ?_, ?_⟩ <;> first | rfl | trivial

/-! ### What mediates -/
structure Cone' (s : Co) (a : Gr) (h k : Pa) : Prop where
  e : pbErr s = 0
  ok : CoOk s
  mp : MorOk a s.B h
  mq : MorOk a s.C k
  cn : ∀ i, i < a.nodes.length → fn s.F.nodes (fn h.nodes i) = fn s.G.nodes (fn k.nodes i)
  ce : ∀ i, i < a.edges.length → fn s.F.edges (fn h.edges i) = fn s.G.edges (fn k.edges i)
theorem med_cone {s : Co} {a : Gr} {h k : Pa} (e : medE s a h k = 0) : Cone' s a h k := by
  obtain ⟨h1, h2, h3, h5⟩ := medE_ok e
  have ok := (pbErr_few h1).1
  have m1 := mor_ok h2
  have m2 := mor_ok h3
  have l1 := m1.ln
  have l2 := m1.le
  have l3 := m2.ln
  have l4 := m2.le
  have h6 := sameP_iff.1 h5
  injection h6 with h6 h7
  exact ⟨h1, ok, m1, m2, fun i hi => same_thru h6 (by omega) (by omega), fun i hi => same_thru h7 (by omega) (by omega)⟩
theorem meet_nth {l : List (Int × Int)} {h k : List Int} {n i : Nat} (hi : i < n) : nth (meetL l h k n) i = idxP l (nth h i, nth k i) := by
  rw [nth_eq (by rw [meetL_len]; exact hi)]; simp [meetL]
theorem med_memN {s : Co} {a : Gr} {h k : Pa} (c : Cone' s a h k) {i : Nat} (hi : i < a.nodes.length) : (nth h.nodes i, nth k.nodes i) ∈ pbNs s := by
  obtain ⟨e1, b1⟩ := fn_at c.mp.rn (show i < h.nodes.length by rw [c.mp.ln]; exact hi)
  obtain ⟨e2, b2⟩ := fn_at c.mq.rn (show i < k.nodes.length by rw [c.mq.ln]; exact hi)
  have l1 := c.ok.F.ln
  have l2 := c.ok.G.ln
  refine mem_pbP.2 ⟨fn h.nodes i, fn k.nodes i, by omega, by omega, ?_, by rw [e1, e2]⟩
  rw [(fn_at c.ok.F.rn (by omega)).1, (fn_at c.ok.G.rn (by omega)).1, c.cn i hi]
theorem med_memE {s : Co} {a : Gr} {h k : Pa} (c : Cone' s a h k) {i : Nat} (hi : i < a.edges.length) : (nth h.edges i, nth k.edges i) ∈ pbEs s := by
  obtain ⟨e1, b1⟩ := fn_at c.mp.re (show i < h.edges.length by rw [c.mp.le]; exact hi)
  obtain ⟨e2, b2⟩ := fn_at c.mq.re (show i < k.edges.length by rw [c.mq.le]; exact hi)
  have l1 := c.ok.F.le
  have l2 := c.ok.G.le
  refine mem_pbP.2 ⟨fn h.edges i, fn k.edges i, by omega, by omega, ?_, by rw [e1, e2]⟩
  rw [(fn_at c.ok.F.re (by omega)).1, (fn_at c.ok.G.re (by omega)).1, c.ce i hi]
theorem med_n {s : Co} {a : Gr} {h k : Pa} (c : Cone' s a h k) {i : Nat} (hi : i < a.nodes.length) :
    nth (medC s h k).nodes i = idxP (pbNs s) (nth h.nodes i, nth k.nodes i) ∧ nth (pbDown s).nodes (fn (medC s h k).nodes i) = nth h.nodes i ∧ nth (pbUpp s).nodes (fn (medC s h k).nodes i) = nth k.nodes i := by
  have hm := med_memN c hi
  have h1 := idxP_lt hm
  have h0 := idxP_pos.2 hm
  have h2 := idxP_get hm
  have e : nth (medC s h k).nodes i = idxP (pbNs s) (nth h.nodes i, nth k.nodes i) := meet_nth (by rw [c.mp.ln]; exact hi)
  refine ⟨e, ?_, ?_⟩
  · rw [fn, e, pbDown, nth_fst (by omega), h2]
  · rw [fn, e, pbUpp, nth_snd (by omega), h2]
theorem med_e {s : Co} {a : Gr} {h k : Pa} (c : Cone' s a h k) {i : Nat} (hi : i < a.edges.length) :
    nth (medC s h k).edges i = idxP (pbEs s) (nth h.edges i, nth k.edges i) ∧ nth (pbDown s).edges (fn (medC s h k).edges i) = nth h.edges i ∧ nth (pbUpp s).edges (fn (medC s h k).edges i) = nth k.edges i := by
  have hm := med_memE c hi
  have h1 := idxP_lt hm
  have h0 := idxP_pos.2 hm
  have h2 := idxP_get hm
  have e : nth (medC s h k).edges i = idxP (pbEs s) (nth h.edges i, nth k.edges i) := meet_nth (by rw [c.mp.le]; exact hi)
  refine ⟨e, ?_, ?_⟩
  · rw [fn, e, pbDown, nth_fst (by omega), h2]
  · rw [fn, e, pbUpp, nth_snd (by omega), h2]
theorem med_hom {s : Co} {a : Gr} {h k : Pa} (c : Cone' s a h k) : Hom a (pbG s) (medC s h k) := by
  have l1 : (medC s h k).nodes.length = a.nodes.length := by simp only [medC, meetL_len, c.mp.ln]
  have l2 : (medC s h k).edges.length = a.edges.length := by simp only [medC, meetL_len, c.mp.le]
  have pd := pbDown_hom c.ok
  refine ⟨l1, l2, fun x hx => ?_, fun x hx => ?_, fun i hi => ?_, fun i hi => ?_⟩
  · obtain ⟨i, hi, rfl⟩ := mem_nth hx
    rw [l1] at hi
    have hm := med_memN c hi
    have h1 := idxP_lt hm
    have h0 := idxP_pos.2 hm
    rw [(med_n c hi).1, pbG_len.1]
    exact ⟨h0, h1⟩
  · obtain ⟨i, hi, rfl⟩ := mem_nth hx
    rw [l2] at hi
    have hm := med_memE c hi
    have h1 := idxP_lt hm
    have h0 := idxP_pos.2 hm
    rw [(med_e c hi).1, pbG_len.2]
    exact ⟨h0, h1⟩
  · have hm := med_memN c hi
    have h1 := idxP_lt hm
    have h0 := idxP_pos.2 hm
    have h2 := idxP_get hm
    rw [fn, (med_n c hi).1, pbG_nth (by omega), h2, pbNode]
    exact (c.mp.n i hi).2.2
  · have hm := med_memE c hi
    have h1 := idxP_lt hm
    have h0 := idxP_pos.2 hm
    have h2 := idxP_get hm
    obtain ⟨_, _, g1, g2, g3, g4⟩ := c.mp.ga.edges _ (eth_mem hi)
    obtain ⟨_, _, t1, u1, v1⟩ := c.mp.e i hi
    obtain ⟨_, _, t2, u2, v2⟩ := c.mq.e i hi
    rw [fn, (med_e c hi).1, pbG_eth (by omega), h2, pbEdge, (med_n c (show (eth a.edges i).f.toNat < a.nodes.length by omega)).1, (med_n c (show (eth a.edges i).g.toNat < a.nodes.length by omega)).1]
    simp only [← t1, ← u1, ← v1, ← u2, ← v2]
    refine ⟨?_, ?_, ?_⟩ <;> first | rfl | trivial

/-- A cone is accepted exactly if it is a pullback. -/
theorem pbChk_iff {s : Co} {a : Gr} {h k : Pa} (e : medE s a h k = 0) : pbChk s a h k = true ↔ IsPB s a h k := by
  have c := med_cone e
  have pb := pb_std c.ok
  have hm := med_hom c
  have hi := pbDown_hom c.ok
  have hj := pbUpp_hom c.ok
  have em := mor_zero (hm.ok c.mp.ga (pbG_ok c.e))
  have z1 : ∀ i, i < a.nodes.length → fn (pbDown s).nodes (fn (medC s h k).nodes i) = fn h.nodes i := fun i hi => by rw [fn, (med_n c hi).2.1]; rfl
  have z2 : ∀ i, i < a.nodes.length → fn (pbUpp s).nodes (fn (medC s h k).nodes i) = fn k.nodes i := fun i hi => by rw [fn, (med_n c hi).2.2]; rfl
  have z3 : ∀ i, i < a.edges.length → fn (pbDown s).edges (fn (medC s h k).edges i) = fn h.edges i := fun i hi => by rw [fn, (med_e c hi).2.1]; rfl
  have z4 : ∀ i, i < a.edges.length → fn (pbUpp s).edges (fn (medC s h k).edges i) = fn k.edges i := fun i hi => by rw [fn, (med_e c hi).2.2]; rfl
  have key : pbChk s a h k = true ↔ (((medC s h k).nodes.Nodup ∧ (medC s h k).edges.Nodup) ∧ (covB (medC s h k).nodes (pbG s).nodes.length = true ∧ covB (medC s h k).edges (pbG s).edges.length = true)) := by
    simp [pbChk, e, injB, surjB, em]
  rw [key, nodup_fn hm.ln hm.pn, nodup_fn hm.le hm.pe, cov_fn hm.ln hm.pn, cov_fn hm.le hm.pe]
  constructor
  · rintro ⟨⟨a1, a2⟩, b1, b2⟩
    exact ⟨pb_of_iso pb.1 hm.mn z1 z2 a1 b1, pb_of_iso pb.2 hm.me z3 z4 a2 b2⟩
  · rintro ⟨p1, p2⟩
    obtain ⟨a1, b1⟩ := pb_iso p1 pb.1 hi.mn hj.mn hm.mn z1 z2
    obtain ⟨a2, b2⟩ := pb_iso p2 pb.2 hi.me hj.me hm.me z3 z4
    exact ⟨⟨a1, a2⟩, b1, b2⟩
end Go.Proofs.Ythapbbpdcjmmfaa

/- The kind of a valid square that commutes. No program in sight. -/
namespace Go.Proofs.Ythapbbpdcjmmfaa
open Abs Po
set_option linter.unusedSimpArgs false
set_option linter.unusedVariables false

theorem sq_parts {s : Sq} (h1 : sqErr s = 0) : morErr s.A s.B s.F = 0 ∧ morErr s.A s.C s.G = 0 ∧ morErr s.B s.D s.H = 0 ∧ morErr s.C s.D s.K = 0 := by
  have ok := sqErr_ok h1
  exact ⟨mor_zero ok.F, mor_zero ok.G, mor_zero ok.H, mor_zero ok.K⟩
theorem sq_zero {s : Sq} (F : MorOk s.A s.B s.F) (G : MorOk s.A s.C s.G) (H : MorOk s.B s.D s.H) (K : MorOk s.C s.D s.K) : sqErr s = 0 := by
  simp [sqErr, mor_zero F, mor_zero G, mor_zero H, mor_zero K]
theorem down_err {s : Sq} (h1 : sqErr s = 0) : spErr (downS s) = 0 := by
  obtain ⟨a, b, _, _⟩ := sq_parts h1
  show (if morErr s.A s.B s.F = 0 then morErr s.A s.C s.G else morErr s.A s.B s.F) = 0
  rw [if_pos a, b]
theorem up_err {s : Sq} (h1 : sqErr s = 0) : coErr (upS s) = 0 := by
  obtain ⟨_, _, a, b⟩ := sq_parts h1
  show (if morErr s.B s.D s.H = 0 then morErr s.C s.D s.K else morErr s.B s.D s.H) = 0
  rw [if_pos a, b]
theorem pm_zero {s : Sq} (h1 : sqErr s = 0) (h2 : commB s = true) (h3 : unErr s.B s.C = 0) : pmE (downS s) s.D s.H s.K = 0 := by
  obtain ⟨a, b, c, d⟩ := sq_parts h1
  rw [pmE, if_pos (down_err h1), if_pos (show morErr (downS s).B s.D s.H = 0 from c), if_pos (show morErr (downS s).C s.D s.K = 0 from d), if_pos (show unErr (downS s).B (downS s).C = 0 from h3)]
  exact if_pos h2
theorem med_zero {s : Sq} (h1 : sqErr s = 0) (h2 : commB s = true) (h3 : pbErr (upS s) = 0) : medE (upS s) s.A s.F s.G = 0 := by
  obtain ⟨a, b, c, d⟩ := sq_parts h1
  rw [medE, if_pos h3, if_pos (show morErr s.A (upS s).B s.F = 0 from a), if_pos (show morErr s.A (upS s).C s.G = 0 from b)]
  exact if_pos h2
theorem pb_errs {s : Sq} (h1 : sqErr s = 0) : pbErr (upS s) = 0 ∨ pbErr (upS s) = 3 := by
  rw [pbErr, if_pos (up_err h1)]
  split
  · exact .inr rfl
  · exact .inl rfl
theorem un_errs {a b : Gr} (ga : GrOk a) (gb : GrOk b) : unErr a b = 0 ∨ unErr a b = 3 := by
  rw [unErr, if_pos (gErr_of ga), if_pos (gErr_of gb)]
  split
  · exact .inr rfl
  · exact .inl rfl
theorem un_zero {a b : Gr} (ga : GrOk a) (gb : GrOk b) (hn : a.nodes.length + b.nodes.length ≤ 40) (he : a.edges.length + b.edges.length ≤ 80) : unErr a b = 0 := by
  rw [unErr, if_pos (gErr_of ga), if_pos (gErr_of gb), if_neg]
  simp only [unBig]
  omega

/-- Pushout, pullback. -/
def SqPO (s : Sq) : Prop := IsPO (downS s) s.D s.H s.K
def SqPB (s : Sq) : Prop := IsPB (upS s) s.A s.F s.G

open Classical in
theorem kind_is {s : Sq} (h1 : sqErr s = 0) (h2 : commB s = true) (h3 : unErr s.B s.C = 0) :
    kindR s = (0, 3) ∨ kindR s = ((if SqPO s then 1 else 0) + (if SqPB s then 2 else 0), 0) := by
  have e1 : poErr (downS s) = 0 := by rw [poErr, if_pos (down_err h1)]; exact h3
  rcases pb_errs h1 with e | e
  · refine .inr ?_
    have k1 := poChk_iff (pm_zero h1 h2 h3)
    have k2 := pbChk_iff (med_zero h1 h2 e)
    rw [kindR, if_pos h1, if_pos h2, if_pos e1, if_pos e, kindN]
    have c1 : (poChk (downS s) s.D s.H s.K = true) = SqPO s := propext k1
    have c2 : (pbChk (upS s) s.A s.F s.G = true) = SqPB s := propext k2
    congr 1
    congr 1
    · by_cases h : SqPO s
      · rw [if_pos (k1.2 h), if_pos h]
      · rw [if_neg (fun x => h (k1.1 x)), if_neg h]
    · by_cases h : SqPB s
      · rw [if_pos (k2.2 h), if_pos h]
      · rw [if_neg (fun x => h (k2.1 x)), if_neg h]
  · refine .inl ?_
    rw [kindR, if_pos h1, if_pos h2, if_pos e1, if_neg (by omega), e]
theorem kind_too {s : Sq} (h1 : sqErr s = 0) (h2 : commB s = true) (h3 : unErr s.B s.C = 3) : kindR s = (0, 3) := by
  have e1 : poErr (downS s) = 3 := by rw [poErr, if_pos (down_err h1)]; exact h3
  rw [kindR, if_pos h1, if_pos h2, if_neg (by omega), e1]

theorem comm_of {s : Sq} (F : MorOk s.A s.B s.F) (G : MorOk s.A s.C s.G) (H : MorOk s.B s.D s.H) (K : MorOk s.C s.D s.K)
    (cn : ∀ i, i < s.A.nodes.length → fn s.H.nodes (fn s.F.nodes i) = fn s.K.nodes (fn s.G.nodes i)) (ce : ∀ i, i < s.A.edges.length → fn s.H.edges (fn s.F.edges i) = fn s.K.edges (fn s.G.edges i)) : commB s = true := by
  have l1 := F.ln
  have l2 := G.ln
  have l3 := F.le
  have l4 := G.le
  refine sameP_iff.2 ?_
  have key : ∀ {m : Nat} {f g h k : List Int} {nB nC nD : Nat}, f.length = m → g.length = m → placesIn f nB → placesIn g nC → h.length = nB → k.length = nC → placesIn h nD → placesIn k nD →
      (∀ i, i < m → fn h (fn f i) = fn k (fn g i)) → thru f h = thru g k := fun {m f g h k nB nC nD} e1 e2 pf pg e3 e4 ph pk hc => (thru_eq e1 e2).2 fun i hi => by
    have b1 := (fn_at pf (show i < f.length by omega)).2
    have b2 := (fn_at pg (show i < g.length by omega)).2
    have := hc i hi
    have c1 := (fn_at ph (show fn f i < h.length by omega)).1
    have c2 := (fn_at pk (show fn g i < k.length by omega)).1
    show nth h (fn f i) = nth k (fn g i)
    rw [c1, c2, this]
  have a1 := key F.ln G.ln F.rn G.rn H.ln K.ln H.rn K.rn cn
  have a2 := key F.le G.le F.re G.re H.le K.le H.re K.re ce
  simp only [thenP, a1, a2]
theorem comm_at {s : Sq} (h1 : sqErr s = 0) (h2 : commB s = true) :
    (∀ i, i < s.A.nodes.length → fn s.H.nodes (fn s.F.nodes i) = fn s.K.nodes (fn s.G.nodes i)) ∧ (∀ i, i < s.A.edges.length → fn s.H.edges (fn s.F.edges i) = fn s.K.edges (fn s.G.edges i)) := by
  have ok := sqErr_ok h1
  have l1 := ok.F.ln
  have l2 := ok.G.ln
  have l3 := ok.F.le
  have l4 := ok.G.le
  have h6 := sameP_iff.1 h2
  injection h6 with h6 h7
  exact ⟨fun i hi => same_thru h6 (by omega) (by omega), fun i hi => same_thru h7 (by omega) (by omega)⟩
theorem then_ok {a b c : Gr} {m n : Pa} (hm : MorOk a b m) (hn : MorOk b c n) : MorOk a c (thenP m n) := by
  have h := hm.hom
  have k := hn.hom
  refine Hom.ok ⟨by simp only [thenP, thru_len]; exact h.ln, by simp only [thenP, thru_len]; exact h.le, thru_in k.pn (by rw [k.ln]; exact h.pn), thru_in k.pe (by rw [k.le]; exact h.pe), fun i hi => ?_, fun i hi => ?_⟩ hm.ga hn.gb
  · have b1 := (fn_at h.pn (show i < m.nodes.length by rw [h.ln]; exact hi)).2
    simp only [thenP]
    rw [fn_thru (by rw [h.ln]; exact hi), k.kn _ b1, h.kn i hi]
  · have b1 := (fn_at h.pe (show i < m.edges.length by rw [h.le]; exact hi)).2
    simp only [thenP]
    obtain ⟨x1, x2, x3⟩ := h.ke i hi
    obtain ⟨y1, y2, y3⟩ := k.ke _ b1
    obtain ⟨_, _, g1, g2, g3, g4⟩ := hm.ga.edges _ (eth_mem hi)
    have l := h.ln
    rw [fn_thru (by rw [h.le]; exact hi), y1, y2, y3, x1, x2, x3, thru_nth (by omega), thru_nth (by omega)]
    exact ⟨rfl, rfl, rfl⟩
end Go.Proofs.Ythapbbpdcjmmfaa

/- Images of graphs and grown graphs: their morphisms; spans of descriptions; squares of standard pushouts. No program in sight. -/
namespace Go.Proofs.Ythapbbpdcjmmfaa
open Abs Po
set_option linter.unusedSimpArgs false
set_option linter.unusedVariables false

theorem imT_flat {g : Gr} {c : List Int} : Flat (imT g c) := imP_flat (by omega)
theorem imT_len {g : Gr} {c : List Int} : (imT g c).length = g.nodes.length := imP_len
theorem imT_con {g : Gr} {c : List Int} : ∀ i, i < g.nodes.length → nth g.nodes (nth (imT g c) i).toNat = nth g.nodes i := fun i hi => genL_inv (f := nth g.nodes) (imL_in (by omega)) imL_same hi
theorem imQ_nth {g : Gr} {c : List Int} {i : Nat} (hi : i < g.nodes.length) : ∃ r : Nat, nth (imQ g c) i = (clsN (imT g c) r : Nat) ∧ r < g.nodes.length ∧ nth (imT g c) r = r ∧ nth g.nodes r = nth g.nodes i := by
  obtain ⟨r, h1, h2, h3⟩ := root_of imT_flat imT_len hi
  have h4 := imT_con (g := g) (c := c) i hi
  rw [h1, Int.toNat_natCast] at h4
  refine ⟨r, ?_, h2, h3, h4⟩
  rw [imQ, quotL_nth (by rw [imT_len]; exact hi), h1, Int.toNat_natCast]
theorem imG_nlen {g : Gr} {c : List Int} : (imG g c).nodes.length = clsN (imT g c) g.nodes.length := clsF_len
theorem imQ_in {g : Gr} {c : List Int} : placesIn (imQ g c) (imG g c).nodes.length := by
  rw [imG_nlen]
  exact quotL_in imT_flat imT_len
theorem imQ_len {g : Gr} {c : List Int} : (imQ g c).length = g.nodes.length := by rw [imQ, quotL_len, imT_len]
theorem imAt_ok {E : List Ed} {x : Ed} {c : List Int} {i : Nat} : ∀ k, 0 ≤ imAt E x c i k → eth E (imAt E x c i k).toNat = x
  | 0, h => absurd h (by simp [imAt])
  | k + 1, h => by
    unfold imAt at h ⊢
    split
    · rename_i h1
      rw [Int.toNat_natCast]
      exact h1.1
    · rename_i h1
      rw [if_neg h1] at h
      exact imAt_ok k h
/-- Where the edges go. -/
theorem imS_at {g : Gr} {c q : List Int} : ∀ k i, i < k → 0 ≤ nth (imS g c q k).2 i ∧ nth (imS g c q k).2 i < (imS g c q k).1.length ∧ eth (imS g c q k).1 (nth (imS g c q k).2 i).toNat = imX g q i
  | 0, i, h => absurd h (by omega)
  | k + 1, i, h => by
    have ih := imS_at (g := g) (c := c) (q := q) k
    have hl := (imS_len (g := g) (c := c) (q := q) k).2
    have ha := imAt_lt (E := (imS g c q k).1) (x := imX g q k) (c := c) (i := k) (imS g c q k).1.length
    have hok := imAt_ok (E := (imS g c q k).1) (x := imX g q k) (c := c) (i := k) (imS g c q k).1.length
    unfold imS
    split
    · by_cases e : i = k
      · subst e
        have e1 : nth ((imS g c q i).2 ++ [((imS g c q i).1.length : Int)]) i = (imS g c q i).1.length := by
          rw [nth_eq (by simp; omega), List.getElem_append_right (by omega)]
          simp
        simp only [e1, Int.toNat_natCast]
        refine ⟨by omega, by simp only [List.length_append, List.length_singleton]; omega, ?_⟩
        rw [eth_eq (by simp), List.getElem_append_right (Nat.le_refl _)]
        simp
      · obtain ⟨h1, h2, h3⟩ := ih i (by omega)
        have e1 : nth ((imS g c q k).2 ++ [((imS g c q k).1.length : Int)]) i = nth (imS g c q k).2 i := nth_appL (by omega)
        simp only [e1]
        refine ⟨h1, by simp; omega, ?_⟩
        rw [eth_appL (by omega)]
        exact h3
    · rename_i hn
      by_cases e : i = k
      · subst e
        have e1 : nth ((imS g c q i).2 ++ [imAt (imS g c q i).1 (imX g q i) c i (imS g c q i).1.length]) i = imAt (imS g c q i).1 (imX g q i) c i (imS g c q i).1.length := by
          rw [nth_eq (by simp; omega), List.getElem_append_right (by omega)]
          simp
        simp only [e1]
        exact ⟨by omega, ha.2, hok (by omega)⟩
      · obtain ⟨h1, h2, h3⟩ := ih i (by omega)
        have e1 : nth ((imS g c q k).2 ++ [imAt (imS g c q k).1 (imX g q k) c k (imS g c q k).1.length]) i = nth (imS g c q k).2 i := nth_appL (by omega)
        simp only [e1]
        exact ⟨h1, h2, h3⟩
theorem imS_mem {g : Gr} {c q : List Int} : ∀ k, ∀ e ∈ (imS g c q k).1, ∃ i, i < k ∧ e = imX g q i
  | 0, e, h => by simp [imS] at h
  | k + 1, e, h => by
    unfold imS at h
    split at h
    · rcases List.mem_append.1 h with h | h
      · obtain ⟨i, hi, he⟩ := imS_mem k e h
        exact ⟨i, by omega, he⟩
      · simp at h
        exact ⟨k, by omega, h⟩
    · obtain ⟨i, hi, he⟩ := imS_mem k e h
      exact ⟨i, by omega, he⟩
theorem imG_ok {g : Gr} {c : List Int} (gg : GrOk g) : GrOk (imG g c) := by
  have hf := imG_few (g := g) (c := c)
  have b1 := gg.n
  have b2 := gg.e
  refine ⟨by omega, by omega, fun x hx => ?_, fun e he => ?_⟩
  · obtain ⟨j, hj, hx⟩ := mem_collect.1 hx
    unfold clsF at hx
    split at hx
    · injection hx with hx
      rw [← hx]
      exact gg.kinds _ (nth_mem hj)
    · cases hx
  · obtain ⟨i, hi, rfl⟩ := imS_mem _ e he
    obtain ⟨t1, t2, g1, g2, g3, g4⟩ := gg.edges _ (eth_mem hi)
    have l := imQ_len (g := g) (c := c)
    have p1 := imQ_in _ (nth_mem (l := imQ g c) (k := (eth g.edges i).f.toNat) (by omega))
    have p2 := imQ_in _ (nth_mem (l := imQ g c) (k := (eth g.edges i).g.toNat) (by omega))
    exact ⟨t1, t2, p1.1, p1.2, p2.1, p2.2⟩
theorem im_mor {g : Gr} {c : List Int} (gg : GrOk g) : MorOk g (imG g c) (imM g c) := by
  refine Hom.ok ⟨imQ_len, (imS_len _).2, imQ_in, fun x hx => ?_, fun i hi => ?_, fun i hi => ?_⟩ gg (imG_ok gg)
  · obtain ⟨i, hi, rfl⟩ := mem_nth hx
    have hi : i < (imS g c (imQ g c) g.edges.length).2.length := hi
    rw [(imS_len _).2] at hi
    obtain ⟨h1, h2, _⟩ := imS_at _ i hi
    exact ⟨h1, h2⟩
  · obtain ⟨r, h1, h2, h3, h4⟩ := imQ_nth (c := c) hi
    have := clsF_get (f := nth g.nodes) h3 (k := g.nodes.length) h2
    have e : fn (imM g c).nodes i = clsN (imT g c) r := by
      show fn (imQ g c) i = _
      rw [fn, h1]; rfl
    rw [e, ← h4]
    show ((collect (clsF (imT g c) (nth g.nodes)) g.nodes.length).getD (clsN (imT g c) r) 0) = _
    rw [List.getD, this]
    rfl
  · obtain ⟨h1, h2, h3⟩ := imS_at (g := g) (c := c) (q := imQ g c) _ i hi
    have e : eth (imG g c).edges (fn (imM g c).edges i) = imX g (imQ g c) i := h3
    rw [e]
    exact ⟨rfl, rfl, rfl⟩
theorem id_mor {g : Gr} (gg : GrOk g) : MorOk g g (idP g) := by
  refine Hom.ok ⟨idL_len, idL_len, fun x hx => ?_, fun x hx => ?_, fun i hi => ?_, fun i hi => ?_⟩ gg gg
  · obtain ⟨i, hi, rfl⟩ := mem_nth hx
    have hi : i < (idL g.nodes.length).length := hi
    rw [idL_len] at hi
    have e : nth (idP g).nodes i = i := idL_nth hi
    rw [e]
    omega
  · obtain ⟨i, hi, rfl⟩ := mem_nth hx
    have hi : i < (idL g.edges.length).length := hi
    rw [idL_len] at hi
    have e : nth (idP g).edges i = i := idL_nth hi
    rw [e]
    omega
  · have e : fn (idP g).nodes i = i := by
      show fn (idL g.nodes.length) i = i
      rw [fn, idL_nth hi]; rfl
    rw [e]
  · have e : fn (idP g).edges i = i := by
      show fn (idL g.edges.length) i = i
      rw [fn, idL_nth hi]; rfl
    obtain ⟨_, _, g1, g2, g3, g4⟩ := gg.edges _ (eth_mem hi)
    rw [e]
    have e1 : nth (idP g).nodes (eth g.edges i).f.toNat = (eth g.edges i).f := by
      show nth (idL g.nodes.length) _ = _
      rw [idL_nth (by omega)]; omega
    have e2 : nth (idP g).nodes (eth g.edges i).g.toNat = (eth g.edges i).g := by
      show nth (idL g.nodes.length) _ = _
      rw [idL_nth (by omega)]; omega
    rw [e1, e2]
    exact ⟨rfl, rfl, rfl⟩
theorem gr_base {g : Gr} {l : List Nat} (gg : GrOk g) : MorOk g (grG g l) (grM g l) := by
  unfold grG grM
  split
  · exact im_mor gg
  · exact id_mor gg

/-- More nodes and edges. -/
theorem more_mor {a b : Gr} {m : Pa} {x : List Int} {y : List Ed} (h : MorOk a b m) (gb : GrOk ⟨b.nodes ++ x, b.edges ++ y⟩) : MorOk a ⟨b.nodes ++ x, b.edges ++ y⟩ m := by
  have hh := h.hom
  refine Hom.ok ⟨hh.ln, hh.le, fun z hz => ?_, fun z hz => ?_, fun i hi => ?_, fun i hi => ?_⟩ h.ga gb
  · have := hh.pn z hz
    simp only [List.length_append]
    omega
  · have := hh.pe z hz
    simp only [List.length_append]
    omega
  · have := hh.mn i hi
    show nth (b.nodes ++ x) _ = _
    rw [nth_appL this]
    exact hh.kn i hi
  · have := hh.me i hi
    show (eth (b.edges ++ y) _).t = _ ∧ (eth (b.edges ++ y) _).f = _ ∧ (eth (b.edges ++ y) _).g = _
    rw [eth_appL this]
    exact hh.ke i hi
theorem grow_few {g : Gr} {l : List Nat} : (growG g l).nodes.length ≤ g.nodes.length + 3 ∧ (growG g l).edges.length ≤ g.edges.length + 4 := by
  have hf := grG_few (g := g) (l := l)
  have h1 : (growG g l).nodes.length ≤ (grG g l).nodes.length + gnc l := grN_len
  have h2 : (growG g l).edges.length = (grG g l).edges.length + gec g l := grE_len
  have h3 : gnc l ≤ 3 := by simp only [gnc]; omega
  have h4 : gec g l ≤ 4 := by
    simp only [gec]
    split <;> omega
  omega
theorem grow_ok {g : Gr} {l : List Nat} (gg : GrOk g) (hn : g.nodes.length ≤ 37) (he : g.edges.length ≤ 76) : GrOk (growG g l) := by
  have hb := (gr_base (l := l) gg).gb
  have hf := grow_few (g := g) (l := l)
  have hl : (grG g l).nodes.length ≤ (grn g l).length := by
    simp only [grn, grN, List.length_append]
    omega
  refine ⟨by omega, by omega, fun x hx => ?_, fun e h => ?_⟩
  · have hx : x ∈ (grG g l).nodes ++ collect (gnF l) (gnc l) := hx
    rcases List.mem_append.1 hx with hx | hx
    · exact hb.kinds x hx
    · obtain ⟨j, _, hj⟩ := mem_collect.1 hx
      unfold gnF at hj
      split at hj
      · injection hj with hj
        omega
      · cases hj
  · have h : e ∈ (grG g l).edges ++ (List.range (gec g l)).map (geX l (grn g l).length) := h
    rcases List.mem_append.1 h with h | h
    · obtain ⟨t1, t2, g1, g2, g3, g4⟩ := hb.edges e h
      have e1 : (growG g l).nodes.length = (grn g l).length := rfl
      exact ⟨t1, t2, g1, by omega, g3, by omega⟩
    · obtain ⟨j, hj, rfl⟩ := List.mem_map.1 h
      have hj := List.mem_range.1 hj
      have z : (grn g l).length ≠ 0 := by
        intro z
        simp [gec, z] at hj
      have z1 := Nat.mod_lt (byth l (j + 4) / 2) (Nat.pos_of_ne_zero z)
      have z2 := Nat.mod_lt (byth l (j + 4) / 16) (Nat.pos_of_ne_zero z)
      have e1 : (growG g l).nodes.length = (grn g l).length := rfl
      rw [e1]
      simp only [geX]
      omega
theorem grow_mor {g : Gr} {l : List Nat} (gg : GrOk g) (hn : g.nodes.length ≤ 37) (he : g.edges.length ≤ 76) : MorOk g (growG g l) (grM g l) :=
  more_mor (gr_base gg) (grow_ok gg hn he)

theorem mdS_ok {d : Dr} {b c : List Nat} : SpOk (mdS d b c) := by
  have hf := mdG_few (d := d)
  have h1 := grow_mor (l := b) (mdG_ok (d := d)) (by omega) (by omega)
  have h2 := grow_mor (l := c) (mdG_ok (d := d)) (by omega) (by omega)
  exact ⟨h1, h2⟩
theorem mdS_few {d : Dr} {b c : List Nat} : (mdS d b c).B.nodes.length ≤ 11 ∧ (mdS d b c).B.edges.length ≤ 14 ∧ (mdS d b c).C.nodes.length ≤ 11 ∧ (mdS d b c).C.edges.length ≤ 14 := by
  have hf := mdG_few (d := d)
  have h1 := grow_few (g := mdG d) (l := b)
  have h2 := grow_few (g := mdG d) (l := c)
  simp only [mdS]
  omega

theorem mdS_un' {d : Dr} {b c : List Nat} : unErr (mdS d b c).B (mdS d b c).C = 0 := by
  have hf := mdS_few (d := d) (b := b) (c := c)
  exact un_zero mdS_ok.F.gb mdS_ok.G.gb (by omega) (by omega)

/-! ### The square of a standard pushout -/
theorem gl_is {s : Sp} (ok : SpOk s) (hu : unErr s.B s.C = 0) : glS s = ⟨s.A, s.B, s.C, poG s, s.F, s.G, poI s, poJ s⟩ := by
  have e1 : poErr s = 0 := by
    rw [poErr, if_pos]
    · exact hu
    · rw [spErr, if_pos (mor_zero ok.F)]
      exact mor_zero ok.G
  simp [glS, poR, e1]
theorem gl_sq {s : Sp} (ok : SpOk s) (hu : unErr s.B s.C = 0) : sqErr (glS s) = 0 ∧ commB (glS s) = true ∧ SqPO (glS s) := by
  rw [gl_is ok hu]
  have g := poG_ok ok hu
  have po := po_std ok
  have hH := (poI_hom ok).ok ok.F.gb g
  have hK := (poJ_hom ok).ok ok.G.gb g
  exact ⟨sq_zero ok.F ok.G hH hK, comm_of ok.F ok.G hH hK po.1.comm po.2.comm, po⟩
theorem po_pb {s : Sq} (h1 : sqErr s = 0) (po : SqPO s) (hi : injB s.A s.B s.F = true ∨ injB s.A s.C s.G = true) : SqPB s := by
  have ok := sqErr_ok h1
  rcases hi with hi | hi
  · simp [injB] at hi
    exact ⟨po_inj po.1 ok.F.hom.mn ((nodup_fn ok.F.ln ok.F.rn).1 hi.1.2), po_inj po.2 ok.F.hom.me ((nodup_fn ok.F.le ok.F.re).1 hi.2)⟩
  · simp [injB] at hi
    exact ⟨(po_inj po.1.symm ok.G.hom.mn ((nodup_fn ok.G.ln ok.G.rn).1 hi.1.2)).symm, (po_inj po.2.symm ok.G.hom.me ((nodup_fn ok.G.le ok.G.re).1 hi.2)).symm⟩
open Classical in
theorem gl_kind {s : Sp} (ok : SpOk s) (hu : unErr s.B s.C = 0) :
    kindR (glS s) = (0, 3) ∨ kindR (glS s) = (3, 0) ∨ kindR (glS s) = (1, 0) ∧ injB s.A s.B s.F = false ∧ injB s.A s.C s.G = false := by
  obtain ⟨h1, h2, h3⟩ := gl_sq ok hu
  rcases kind_is h1 h2 (by rw [gl_is ok hu]; exact hu) with e | e
  · exact .inl e
  · rw [if_pos h3] at e
    by_cases hp : SqPB (glS s)
    · rw [if_pos hp] at e
      exact .inr (.inl e)
    · rw [if_neg hp] at e
      refine .inr (.inr ⟨e, ?_, ?_⟩)
      · cases hi : injB s.A s.B s.F
        · rfl
        · exact absurd (po_pb h1 h3 (.inl hi)) hp
      · cases hi : injB s.A s.C s.G
        · rfl
        · exact absurd (po_pb h1 h3 (.inr hi)) hp
end Go.Proofs.Ythapbbpdcjmmfaa

/- Cases of descriptions: their contract; parts that bits mean are parts. -/
namespace Go.Proofs.Ythapbbpdcjmmfaa
open Abs Po
set_option linter.unusedSimpArgs false
set_option linter.unusedVariables false
attribute [local simp] rn0 rn1 rn2 rn3 rn4 rn5 rn6 rn7 evOp nests Arg.ev St.val St.set St.new sliceOf binInt2 binInt AV.cells rdAt St.live retOf resOf resAll treeOf treeCell treeCells treeTups untree frameOf TV.av TR.av ints edgs prs fillV splice intsOf trees V1.tree bx Gr.v Pa.v opRd opWr opNew opNewR opArgs argsRd argRd Arg.rd AV.refs V1.refs refsL dstL

theorem mask_part {g : Gr} {s : Nat} : PartOk g (maskP g s) := ⟨canon_asc, canon_asc, fun x hx => ⟨(mem_canon.1 hx).1, (mem_canon.1 hx).2.1⟩, fun x hx => ⟨(mem_canon.1 hx).1, (mem_canon.1 hx).2.1⟩⟩
theorem mask_sub {g : Gr} {s : Nat} (go : GrOk g) : subErr g (maskP g s) = 0 := by
  rw [subErr, if_pos (gErr_of go)]
  refine (part_iff mask_part).2 fun k hk => ?_
  obtain ⟨h1, h2, h3⟩ := mem_canon.1 hk
  obtain ⟨i, hi, _, he⟩ := mem_bits.1 h3
  obtain ⟨_, _, q1, q2, q3, q4⟩ := go.edges _ (eth_mem hi)
  rw [he, Int.toNat_natCast]
  rw [he] at h3
  exact ⟨mem_canon.2 ⟨q1, q2, List.mem_append.2 (.inr (endsL_mem.2 ⟨i, hi, h3, .inl rfl⟩))⟩, mem_canon.2 ⟨q3, q4, List.mem_append.2 (.inr (endsL_mem.2 ⟨i, hi, h3, .inr rfl⟩))⟩⟩
theorem mask_tiny {g : Gr} {s : Nat} (go : GrOk g) : tinyP (maskP g s) := by
  have h1 := canon_len (n := g.nodes.length) (a := bitsL s 0 g.nodes.length ++ endsL g (bitsL s g.nodes.length g.edges.length) g.edges.length)
  have h2 := canon_len (n := g.edges.length) (a := bitsL s g.nodes.length g.edges.length)
  have b1 := go.n
  have b2 := go.e
  exact ⟨by simp only [tiny, maskP]; omega, by simp only [tiny, maskP]; omega⟩

/-- The four parts of a case of a description. -/
def dG (d : Dr) (c : List Nat) : Gr := growG (mdG d) c
def dM (d : Dr) (c : List Nat) : Pa := grM (mdG d) c
theorem dMor {d : Dr} {c : List Nat} : MorOk (mdG d) (dG d c) (dM d c) := by
  have hf := mdG_few (d := d)
  exact grow_mor mdG_ok (by omega) (by omega)
theorem dFew {d : Dr} {c : List Nat} : (dG d c).nodes.length ≤ 11 ∧ (dG d c).edges.length ≤ 14 := by
  have hf := mdG_few (d := d)
  have h2 := grow_few (g := mdG d) (l := c)
  simp only [dG]
  omega
theorem dTiny {d : Dr} {c : List Nat} {p : Pa} (hp : tinyP p) : TinyCase (mdG d) (dG d c) p (dM d c) := by
  have hf := mdG_few (d := d)
  have h2 := dFew (d := d) (c := c)
  have m := dMor (d := d) (c := c)
  have l1 := m.ln
  have l2 := m.le
  exact ⟨⟨by simp only [tiny]; omega, by simp only [tiny]; omega⟩, ⟨by simp only [tiny]; omega, by simp only [tiny]; omega⟩, hp, ⟨by simp only [tiny]; omega, by simp only [tiny]; omega⟩⟩
theorem dCase {d : Dr} {c : List Nat} {p : Pa} (hp : subErr (mdG d) p = 0) : caseErr (mdG d) (dG d c) p (dM d c) = 0 := by
  rw [caseErr, if_pos (mor_zero dMor)]
  exact hp

def c_made12 : MFunc := ⟨25, [.cell 6 true 8], .seq (.region [⟨some 3, .box 0 41 (.tmp 0), none⟩, ⟨some 6, .alloc 1 30 [.nil, .nil, .nil, .nil, .nil, .nil, .nil, .nil], none⟩]) (.seq (.region [⟨some 10, .load true 2 (.tmp 3), none⟩, ⟨some 11, .call (.c (.one (.fn 55 []))) 65 [.tmp 10], none⟩, ⟨some 7, .alloc 66 25 [.nil, .nil], none⟩, ⟨none, .store 2 (.tmp 7) (.tmp 11), none⟩]) (.seq (.region [⟨some 13, .load true 2 (.tmp 7), none⟩, ⟨some 14, .mv (.tmp 1), none⟩, ⟨some 15, .call (.c (.one (.fn 56 []))) 130 [.tmp 13, .tmp 14], none⟩, ⟨some 12, .mv (.tmp 15), none⟩, ⟨some 16, .extract (.tmp 12) 0, none⟩, ⟨some 17, .extract (.tmp 12) 1, none⟩, ⟨some 8, .alloc 134 25 [.nil, .nil], none⟩, ⟨some 9, .alloc 135 28 [.nil, .nil], none⟩, ⟨none, .store 2 (.tmp 8) (.tmp 16), none⟩, ⟨none, .store 2 (.tmp 9) (.tmp 17), none⟩]) (.seq (.draw [[], [], [], [], [2, 3], [], [0, 1, 4, 5], [6, 4, 0, 1, 2, 3, 4, 5, 6]] [⟨some 18, .load true 2 (.tmp 7), none⟩, ⟨some 19, .load true 2 (.tmp 8), none⟩, ⟨some 20, .load true 2 (.tmp 7), none⟩, ⟨some 21, .mv (.tmp 2), none⟩, ⟨some 22, .call (.c (.one (.fn 30 []))) 196 [.tmp 20, .tmp 21], none⟩, ⟨some 23, .load true 2 (.tmp 9), none⟩, ⟨some 24, .build [.nil, .nil, .nil, .nil, .nil, .nil, .nil, .nil] [(0, (2, .tmp 18)), (2, (2, .tmp 19)), (4, (2, .tmp 22)), (6, (2, .tmp 23))], none⟩, ⟨none, .store 8 (.tmp 6) (.tmp 24), none⟩]) .ret)))⟩
theorem k_made12 : cFn Try.prog Try.f18 = some c_made12 := by kernel_rfl
set_option maxHeartbeats 2000000 in
theorem made12_ok (d : Dr) (c : List Nat) (s : Nat) (hd : BoundD d) (hc : c.length ≤ 1048576) (hcs : ∀ x ∈ c, x < 256) : CallOK Try.prog 18 [d.v, byV c, u64V s] (.sv (gluV (mdG d) (dG d c) (maskP (mdG d) s) (dM d c))) := by
  refine callOK_W (callS_W (by kernel_rfl) Try.func18 k_made12 (callable_of Try.func18 (by kernel_rfl)) (by simp [c_made12]) ?_)
  simp [c_made12, byV, bys, Dr.v, u64V]
  refine callS_tree (made05_ok d hd) ?_ ?_ ?_
  · rfl
  · rfl
  simp
  refine callS_tree (grown10_ok (mdG d) c mdG_ok hc hcs) ?_ ?_ ?_
  · rfl
  · rfl
  simp [dw0, dw1, dw2, dw3]
  refine dCall_ok (made7_ok (mdG d) s mdG_ok) ?_ ?_ ?_
  · rfl
  · rfl
  simp [dw0, dw1, dw2, dw3, gluV, dG, dM]
  first | kernel_rfl | rfl

/-- A complement without error. -/
theorem of_zero {l g : Gr} {p m : Pa} (h0 : caseErr l g p m = 0) (h : (ofR l g p m).2 = 0) : pairsL m.nodes p.nodes = [] ∧ pairsL m.edges p.edges = [] ∧ danglL g p m = [] ∧ (ofR l g p m).1 = ⟨restL g.nodes.length (goneL m.nodes p.nodes), restL g.edges.length (goneL m.edges p.edges)⟩ := by
  rw [ofR, if_pos h0] at h ⊢
  split at h
  · cases h
  rename_i h2
  split at h
  · rename_i h3
    rw [if_neg h2, if_pos h3]
    refine ⟨List.eq_nil_of_length_eq_zero (by omega), List.eq_nil_of_length_eq_zero (by omega), h3, rfl⟩
  · cases h
theorem of_err {l g : Gr} {p m : Pa} (h0 : caseErr l g p m = 0) : (ofR l g p m).2 = 0 ∨ (ofR l g p m).2 = 14 ∨ (ofR l g p m).2 = 15 := by
  rw [ofR, if_pos h0]
  split
  · exact .inr (.inr rfl)
  split
  · exact .inl rfl
  · exact .inr (.inl rfl)

def c_lawCovers : MFunc := ⟨64, [.tmp 6], .seq (.region [⟨some 3, .box 0 41 (.tmp 0), none⟩, ⟨some 6, .mv (.c (.one (.t (.bool false)))), none⟩]) (.seq (.seq (.region [⟨some 10, .call (.c (.one (.fn 10 []))) 64 [], none⟩, ⟨some 11, .not (.tmp 10), none⟩]) (.cond (.tmp 11) (.seq (.region [⟨some 6, .mv (.c (.one (.t (.bool false)))), none⟩]) .ret) .skip)) (.seq (.region [⟨some 12, .load true 2 (.tmp 3), none⟩, ⟨some 13, .mv (.tmp 1), none⟩, ⟨some 14, .mv (.tmp 2), none⟩, ⟨some 15, .call (.c (.one (.fn 18 []))) 195 [.tmp 12, .tmp 13, .tmp 14], none⟩, ⟨some 7, .alloc 196 30 [.nil, .nil, .nil, .nil, .nil, .nil, .nil, .nil], none⟩, ⟨none, .store 8 (.tmp 7) (.tmp 15), none⟩]) (.seq (.region [⟨some 17, .fieldA 0 (.tmp 7), none⟩, ⟨some 18, .load true 2 (.tmp 17), none⟩, ⟨some 19, .fieldA 2 (.tmp 7), none⟩, ⟨some 20, .load true 2 (.tmp 19), none⟩, ⟨some 21, .fieldA 4 (.tmp 7), none⟩, ⟨some 22, .load true 2 (.tmp 21), none⟩, ⟨some 23, .fieldA 6 (.tmp 7), none⟩, ⟨some 24, .load true 2 (.tmp 23), none⟩, ⟨some 25, .call (.c (.one (.fn 12 []))) 264 [.tmp 18, .tmp 20, .tmp 22, .tmp 24], none⟩, ⟨some 16, .mv (.tmp 25), none⟩, ⟨some 26, .extract (.tmp 16) 0, none⟩, ⟨some 27, .extract (.tmp 16) 1, none⟩, ⟨some 8, .alloc 268 27 [.nil, .nil], none⟩, ⟨none, .store 2 (.tmp 8) (.tmp 26), none⟩, ⟨some 9, .mv (.tmp 27), none⟩]) (.seq (.seq (.region [⟨some 28, .mv (.tmp 9), none⟩, ⟨some 29, .bin .neq (.tmp 28) (.c (.one (.t (.int .i64 0)))), none⟩]) (.cond (.tmp 29) (.seq (.region [⟨some 30, .mv (.tmp 9), none⟩, ⟨some 31, .bin .eql (.tmp 30) (.c (.one (.t (.int .i64 15)))), none⟩, ⟨some 32, .mv (.tmp 31), none⟩, ⟨some 33, .mv (.tmp 9), some (32, false)⟩, ⟨some 34, .bin .eql (.tmp 33) (.c (.one (.t (.int .i64 14)))), some (32, false)⟩, ⟨some 35, .pick (.tmp 32) (.c (.one (.t (.bool true)))) (.tmp 34), none⟩, ⟨some 6, .mv (.tmp 35), none⟩]) .ret) .skip)) (.seq (.region [⟨some 36, .fieldA 2 (.tmp 7), none⟩, ⟨some 37, .fieldA 0 (.tmp 36), none⟩, ⟨some 38, .load false 1 (.tmp 37), none⟩, ⟨some 39, .len (.tmp 38), none⟩, ⟨some 40, .fieldA 0 (.tmp 8), none⟩, ⟨some 41, .load false 1 (.tmp 40), none⟩, ⟨some 42, .fieldA 6 (.tmp 7), none⟩, ⟨some 43, .fieldA 0 (.tmp 42), none⟩, ⟨some 44, .load false 1 (.tmp 43), none⟩, ⟨some 45, .fieldA 4 (.tmp 7), none⟩, ⟨some 46, .fieldA 0 (.tmp 45), none⟩, ⟨some 47, .load false 1 (.tmp 46), none⟩, ⟨some 48, .call (.c (.one (.fn 19 []))) 460 [.tmp 39, .tmp 41, .tmp 44, .tmp 47], none⟩, ⟨some 49, .mv (.tmp 48), none⟩, ⟨some 50, .fieldA 2 (.tmp 7), some (49, true)⟩, ⟨some 51, .fieldA 1 (.tmp 50), some (49, true)⟩, ⟨some 52, .load false 1 (.tmp 51), some (49, true)⟩, ⟨some 53, .len (.tmp 52), some (49, true)⟩, ⟨some 54, .fieldA 1 (.tmp 8), some (49, true)⟩, ⟨some 55, .load false 1 (.tmp 54), some (49, true)⟩, ⟨some 56, .fieldA 6 (.tmp 7), some (49, true)⟩, ⟨some 57, .fieldA 1 (.tmp 56), some (49, true)⟩, ⟨some 58, .load false 1 (.tmp 57), some (49, true)⟩, ⟨some 59, .fieldA 4 (.tmp 7), some (49, true)⟩, ⟨some 60, .fieldA 1 (.tmp 59), some (49, true)⟩, ⟨some 61, .load false 1 (.tmp 60), some (49, true)⟩, ⟨some 62, .call (.c (.one (.fn 19 []))) 474 [.tmp 53, .tmp 55, .tmp 58, .tmp 61], some (49, true)⟩, ⟨some 63, .pick (.tmp 49) (.tmp 62) (.c (.one (.t (.bool false)))), none⟩, ⟨some 6, .mv (.tmp 63), none⟩]) .ret)))))⟩
theorem k_lawCovers : cFn Try.prog Try.f5 = some c_lawCovers := by kernel_rfl
set_option maxHeartbeats 4000000 in
theorem lawCovers_ok (d : Dr) (c : List Nat) (s : Nat) (hd : BoundD d) (hc : c.length ≤ 1048576) (hcs : ∀ x ∈ c, x < 256) : CallOK Try.prog 5 [d.v, byV c, u64V s] (.sv (false, [.bool true])) := by
  refine callOK_W (callS_W (by kernel_rfl) Try.func5 k_lawCovers (callable_of Try.func5 (by kernel_rfl)) (by simp [c_lawCovers]) ?_)
  have hp := mask_tiny (s := s) (mdG_ok (d := d))
  have ht := dTiny (d := d) (c := c) hp
  have h0 := dCase (d := d) (c := c) (mask_sub (s := s) (mdG_ok (d := d)))
  have m0 := dMor (d := d) (c := c)
  simp [c_lawCovers, byV, bys, Dr.v, u64V]
  refine callS_tree awake_ok ?_ ?_ ?_
  · rfl
  · rfl
  simp
  refine callS_tree (made12_ok d c s hd hc hcs) ?_ ?_ ?_
  · rfl
  · rfl
  simp [gluV]
  refine callS_tree (of_ok _ _ _ _ ht) ?_ ?_ ?_
  · rfl
  · rfl
  rcases of_err h0 with h | h | h
  · obtain ⟨p1, p2, p3, p4⟩ := of_zero h0 h
    simp [h, p4]
    refine callS_tree (covers_ok (dG d c).nodes.length (dM d c).nodes (maskP (mdG d) s).nodes ht.tg.1 ht.tm.1 hp.1 p1) ?_ ?_ ?_
    · rfl
    · rfl
    simp
    refine callS_tree (covers_ok (dG d c).edges.length (dM d c).edges (maskP (mdG d) s).edges ht.tg.2 ht.tm.2 hp.2 p2) ?_ ?_ ?_
    · rfl
    · rfl
    simp
  · simp [h]
  · simp [h]
end Go.Proofs.Ythapbbpdcjmmfaa

/- Contracts: unions of parts; what is contained in a part. -/
namespace Go.Proofs.Ythapbbpdcjmmfaa
open Abs Go.RowKit Go.Sort
set_option linter.unusedSimpArgs false
set_option linter.unusedVariables false
attribute [local simp] rn0 rn1 rn2 rn3 rn4 rn5 rn6 rn7 evOp nests Arg.ev St.val St.set St.new sliceOf binInt2 binInt AV.cells rdAt St.live retOf resOf resAll treeOf treeCell treeCells treeTups untree frameOf TV.av TR.av ints edgs prs fillV splice intsOf trees V1.tree bx Gr.v Pa.v opRd opWr opNew opNewR opArgs argsRd argRd Arg.rd AV.refs V1.refs refsL dstL

/-- Compact of a row: a tree comes back, the row is dead. -/
theorem callS_compactD {P : Program} {f : FuncId} (hs : CompSaid P f) {R : AV → (Nm → Option Ob) → (Nat → Nat) → Prop} {o : Nm} {typ : Nat} {zs : List Int} {ob : Nm → Option Ob} {cnt : Nat → Nat} (h3 : ob o = some ⟨true, true, false, 1, zs.length, typ, (zs.map (Abs.C.int .i64)).map .t⟩) (hbig : zs.length ≤ 9223372036854775807)
    (hR : R (.one (.t (ints (Lib.compact zs)))) (upd (upd ob o (some ⟨true, true, false, 1, zs.length, typ, (Lib.compact zs ++ List.replicate (zs.length - (Lib.compact zs).length) 0).map fun z => .t (.int .i64 z)⟩)) o
      (some ⟨false, true, false, 1, zs.length, typ, (Lib.compact zs ++ List.replicate (zs.length - (Lib.compact zs).length) 0).map fun z => .t (.int .i64 z)⟩)) cnt) : CallS P f [.one (.row o)] ob cnt R := by
  refine ⟨hs.2.2, fun w0 Zc m w cargs hr hlen hargs => ?_⟩
  have h0 : cargs.size = 1 := by simpa using hlen.symm
  obtain ⟨x', hx', _, hv⟩ := hargs 0 (.one (.row o)) cargs[0] rfl (by simp [h0])
  rw [h3] at hx'
  injection hx' with hx'
  subst hx'
  have e : cargs = #[.slice (some ⟨m.at_ o, 0, none⟩) zs.length (m.cap o)] := by
    apply Array.ext (by simp [h0])
    intro i h1 h2
    have : i = 0 := by omega
    subst this
    simpa using hv
  have hcap : zs.length ≤ m.cap o := by
    obtain ⟨_, arr, _, h2, _⟩ := hr.obs _ _ h3 rfl
    rw [if_pos rfl] at h2
    exact h2.2.1
  rw [e]
  refine (hs.1 (m.at_ o) (m.cap o) zs w (holds_row hr h3 rfl rfl (by simp)) hbig hcap).mono ?_
  have hcl := compact_le zs
  rintro e w' ⟨rfl, n, hw⟩
  obtain ⟨g1, g2⟩ := hr_put (w' := w') (zs := zs) (ts := Lib.compact zs ++ List.replicate (zs.length - (Lib.compact zs).length) 0) (n := n) (os := #[]) hr h3 rfl rfl rfl rfl rfl (by simp) (by simp; omega) (by rw [grow_empty]; exact hw)
  obtain ⟨k1, k2⟩ := hr_kill g1 (upd_same ..)
  have hd := dead_tree g1 (zs := Lib.compact zs ++ List.replicate (zs.length - (Lib.compact zs).length) 0) (upd_same ..) rfl rfl rfl (by simp; omega) rfl (Lib.compact zs).length (by simp)
  rw [List.take_left] at hd
  exact ⟨_, .one (.t (ints (Lib.compact zs))), _, cnt, m, rfl, hR, k1, g2.trans k2, hd⟩

def c_sorted : MFunc := ⟨7, [.tmp 2], .seq (.region [⟨some 2, .mv (.c (.one .nil)), none⟩]) (.seq (.region [⟨some 3, .mv (.tmp 0), none⟩, ⟨some 4, .call (.c (.one (.fn 52 []))) 65 [.tmp 3], none⟩]) (.seq (.region [⟨some 5, .mv (.tmp 0), none⟩, ⟨some 6, .call (.c (.one (.fn 53 []))) 129 [.tmp 5], none⟩, ⟨some 2, .mv (.tmp 6), none⟩]) .ret))⟩
theorem k_sorted : cFn Try.prog Try.f58 = some c_sorted := by kernel_rfl
theorem sorted_nil {ob : Nm → Option Ob} {nm : Nat} : CallM Try.prog 58 nm [.one .nil] ob [] none (fun _ => .one (.t (ints []))) := by
  refine ⟨(fun p hp => by cases hp), fun ob cnt _ => callS_W (by kernel_rfl) Try.func58 k_sorted (callable_of Try.func58 (by kernel_rfl)) (by simp [c_sorted]) ?_⟩
  simp [c_sorted, -treeCell, treeCell_t]
  refine callS_sort_nil sortSaid ?_
  simp
  refine callS_compactL (nms := []) (zs := []) (typ := 0) compSaid (.inl ⟨rfl, rfl, rfl⟩) (by simp) fun ob' h => ?_
  have e : ob' = ob := funext fun x => h x.1 x.2 (by simp)
  simp [e, putNew, putAll, cntNew, Lib.compact, Lib.compactUpTo]

/-- What Sort and Compact do to a row. -/
def srtO (typ : Nat) (zs : List Int) : Ob := ⟨true, true, false, 1, zs.length, typ, (zs.mergeSort fun x y => decide (x ≤ y)).map fun z => .t (.int .i64 z)⟩
def cmpO (l : Bool) (typ : Nat) (zs : List Int) : Ob := ⟨l, true, false, 1, zs.length, typ, (Lib.compact zs ++ List.replicate (zs.length - (Lib.compact zs).length) 0).map fun z => .t (.int .i64 z)⟩
theorem sorted_row {ob0 : Nm → Option Ob} {nm typ : Nat} {o : Nm} {zs : List Int} (ho : ob0 o = some ⟨true, true, false, 1, zs.length, typ, (zs.map (Abs.C.int .i64)).map .t⟩) (hbig : zs.length ≤ 1000000) :
    CallM Try.prog 58 nm [.one (.row o)] ob0 [(o, srtO typ zs), (o, cmpO true typ (zs.mergeSort fun x y => decide (x ≤ y))), (o, cmpO false typ (zs.mergeSort fun x y => decide (x ≤ y)))] none (fun _ => .one (.t (ints (Lib.compact (zs.mergeSort fun x y => decide (x ≤ y)))))) := by
  refine ⟨fun p hp => ?_, fun ob cnt hob => callS_W (by kernel_rfl) Try.func58 k_sorted (callable_of Try.func58 (by kernel_rfl)) (by simp [c_sorted]) ?_⟩
  · simp at hp
    rcases hp with rfl | rfl | rfl <;> simp [AV.refs, V1.refs]
  have h3 : ob o = some ⟨true, true, false, 1, zs.length, typ, (zs.map (Abs.C.int .i64)).map .t⟩ := (hob o (by simp [AV.refs, V1.refs])).trans ho
  simp [c_sorted, -treeCell, treeCell_t]
  refine callS_sort (zs := zs) sortSaid h3 rfl rfl rfl rfl rfl (by simp) (by omega) ?_
  simp [-treeCell, treeCell_t]
  refine callS_compactD (zs := zs.mergeSort fun x y => decide (x ≤ y)) (typ := typ) compSaid (by rw [upd_same]; simp) (by simp; omega) ?_
  simp [-treeCell, treeCell_t, putNew, putAll, cntNew, srtO, cmpO]

theorem dCall_sorted {S : St} {K : Eff → Prop} {nm0 nm typ : Nat} {zs : List Int} {v : AV} (h : outL [nm0] typ 1 zs.length (zs.map (.int .i64)) S.ob v) (hbig : zs.length ≤ 1000000)
    (hk : ∀ ob', (∀ a g, a ≠ nm0 → ob' (a, g) = S.ob (a, g)) → K ⟨.one (.t (ints (Lib.compact (zs.mergeSort fun x y => decide (x ≤ y))))), ob', S.cnt⟩) : dCall Try.prog (.one (.fn 58 [])) nm [v] S K := by
  rcases h with ⟨h1, h2, rfl⟩ | ⟨h1, m', hm, g, rfl, ho⟩
  · have : zs = [] := List.eq_nil_of_length_eq_zero h1
    subst this
    have e0 : Lib.compact (([] : List Int).mergeSort fun x y => decide (x ≤ y)) = [] := by simp [Lib.compact, Lib.compactUpTo]
    rw [e0] at hk
    exact dCall_mut (by decide) sorted_nil (hk S.ob fun _ _ _ => rfl)
  · simp at hm
    subst hm
    refine dCall_mut (by decide) (sorted_row ho hbig) (hk _ fun a g' ha => ?_)
    have hne : (a, g') ≠ (m', g) := fun e => ha (Prod.mk.inj e).1
    show upd (upd (upd S.ob (m', g) _) (m', g) _) (m', g) _ (a, g') = S.ob (a, g')
    rw [upd_ne _ _ hne, upd_ne _ _ hne, upd_ne _ _ hne]

/-- The union of two parts. -/
def joinP (l : Gr) (p q : Pa) : Pa := ⟨canon l.nodes.length (p.nodes ++ q.nodes), canon l.edges.length (p.edges ++ q.edges)⟩
def c_both : MFunc := ⟨17, [.tmp 6], .seq (.region [⟨some 3, .box 0 25 (.tmp 0), none⟩, ⟨some 4, .box 1 27 (.tmp 1), none⟩, ⟨some 5, .box 2 27 (.tmp 2), none⟩, ⟨some 6, .mv (.c (.one (.t (.int .i64 0)))), none⟩]) (.seq (.seq (.region [⟨some 8, .load true 2 (.tmp 3), none⟩, ⟨some 9, .load true 2 (.tmp 4), none⟩, ⟨some 10, .call (.c (.one (.fn 63 []))) 66 [.tmp 8, .tmp 9], none⟩, ⟨some 7, .mv (.tmp 10), none⟩]) (.seq (.region [⟨some 11, .mv (.tmp 7), none⟩, ⟨some 12, .bin .neq (.tmp 11) (.c (.one (.t (.int .i64 0)))), none⟩]) (.cond (.tmp 12) (.seq (.region [⟨some 13, .mv (.tmp 7), none⟩, ⟨some 6, .mv (.tmp 13), none⟩]) .ret) .skip))) (.seq (.region [⟨some 14, .load true 2 (.tmp 3), none⟩, ⟨some 15, .load true 2 (.tmp 5), none⟩, ⟨some 16, .call (.c (.one (.fn 81 []))) 258 [.tmp 14, .tmp 15], none⟩, ⟨some 6, .mv (.tmp 16), none⟩]) .ret))⟩
theorem k_both : cFn Try.prog Try.f57 = some c_both := by kernel_rfl
theorem both_ok (g : Gr) (p q : Pa) (hg : tinyG g) (hp : tinyP p) (hq : tinyP q) (h0 : subErr g p = 0) (h1 : partErr g q = 0) : CallOK Try.prog 57 [g.v, p.v, q.v] (.sv (false, [.int .i64 0])) := by
  refine callOK_W (callS_W (by kernel_rfl) Try.func57 k_both (callable_of Try.func57 (by kernel_rfl)) (by simp [c_both]) ?_)
  simp [c_both]
  refine callS_tree (svalid_ok g p hg hp) ?_ ?_ ?_
  · rfl
  · rfl
  simp [h0]
  refine callS_tree (part_ok g q hq.1 hq.2) ?_ ?_ ?_
  · rfl
  · rfl
  simp [h1]

def c_join : MFunc := ⟨32, [.cell 6 true 2, .tmp 7], .seq (.region [⟨some 3, .box 0 25 (.tmp 0), none⟩, ⟨some 4, .box 1 27 (.tmp 1), none⟩, ⟨some 5, .box 2 27 (.tmp 2), none⟩, ⟨some 6, .alloc 3 27 [.nil, .nil], none⟩, ⟨some 7, .mv (.c (.one (.t (.int .i64 0)))), none⟩]) (.seq (.seq (.region [⟨some 9, .load true 2 (.tmp 3), none⟩, ⟨some 10, .load true 2 (.tmp 4), none⟩, ⟨some 11, .load true 2 (.tmp 5), none⟩, ⟨some 12, .call (.c (.one (.fn 57 []))) 67 [.tmp 9, .tmp 10, .tmp 11], none⟩, ⟨some 8, .mv (.tmp 12), none⟩]) (.seq (.region [⟨some 13, .mv (.tmp 8), none⟩, ⟨some 14, .bin .neq (.tmp 13) (.c (.one (.t (.int .i64 0)))), none⟩]) (.cond (.tmp 14) (.seq (.region [⟨some 15, .build [.nil, .nil] [], none⟩, ⟨some 16, .mv (.tmp 8), none⟩, ⟨none, .store 2 (.tmp 6) (.tmp 15), none⟩, ⟨some 7, .mv (.tmp 16), none⟩]) .ret) .skip))) (.seq (.draw [[], [0], [], [2], [1, 3], [4], [5, 5], [], [7], [], [9], [8, 10], [11, 6], [12, 12], [6, 13], [14, 13, 0, 1, 2, 3, 4, 5, 6, 7, 8, 9, 10, 11, 12, 13, 14], [15, 0, 1, 2, 3, 4, 5, 6, 7, 8, 9, 10, 11, 12, 13, 14, 15]] [⟨some 17, .fieldA 0 (.tmp 4), none⟩, ⟨some 18, .load false 1 (.tmp 17), none⟩, ⟨some 19, .fieldA 0 (.tmp 5), none⟩, ⟨some 20, .load false 1 (.tmp 19), none⟩, ⟨some 21, .mkrow 260 22 1 2 [.nil, .nil] [(0, (1, .tmp 18)), (1, (1, .tmp 20))], none⟩, ⟨some 22, .call (.c (.one (.fn 59 []))) 261 [.tmp 21], none⟩, ⟨some 23, .call (.c (.one (.fn 58 []))) 262 [.tmp 22], none⟩, ⟨some 24, .fieldA 1 (.tmp 4), none⟩, ⟨some 25, .load false 1 (.tmp 24), none⟩, ⟨some 26, .fieldA 1 (.tmp 5), none⟩, ⟨some 27, .load false 1 (.tmp 26), none⟩, ⟨some 28, .mkrow 267 22 1 2 [.nil, .nil] [(0, (1, .tmp 25)), (1, (1, .tmp 27))], none⟩, ⟨some 29, .call (.c (.one (.fn 59 []))) 268 [.tmp 28], none⟩, ⟨some 30, .call (.c (.one (.fn 58 []))) 269 [.tmp 29], none⟩, ⟨some 31, .build [.nil, .nil] [(0, (1, .tmp 23)), (1, (1, .tmp 30))], none⟩, ⟨none, .store 2 (.tmp 6) (.tmp 31), none⟩, ⟨some 7, .mv (.c (.one (.t (.int .i64 0)))), none⟩]) .ret))⟩
theorem k_join : cFn Try.prog Try.f29 = some c_join := by kernel_rfl
set_option maxHeartbeats 4000000 in
theorem join_ok (g : Gr) (p q : Pa) (hg : tinyG g) (hp : tinyP p) (hq : tinyP q) (h0 : subErr g p = 0) (h1 : partErr g q = 0) (pn : p.nodes.length ≤ 1000) (pe : p.edges.length ≤ 1000) (qn : q.nodes.length ≤ 1000) (qe : q.edges.length ≤ 1000) (rn : ∀ x ∈ p.nodes ++ q.nodes, 0 ≤ x ∧ x < g.nodes.length) (re : ∀ x ∈ p.edges ++ q.edges, 0 ≤ x ∧ x < g.edges.length) :
    CallOK Try.prog 29 [g.v, p.v, q.v] (.tup [(joinP g p q).v, (false, [.int .i64 0])]) := by
  refine callOK_W (callS_W (by kernel_rfl) Try.func29 k_join (callable_of Try.func29 (by kernel_rfl)) (by simp [c_join]) ?_)
  simp [c_join]
  refine callS_tree (both_ok g p q hg hp hq h0 h1) ?_ ?_ ?_
  · rfl
  · rfl
  simp [dw0, dw1, dw2, dw3]
  refine dCall_rowL (concat_row p.nodes q.nodes (by omega) (by omega)) ?_ fun E hE hob hcnt => ?_
  · rfl
  have hE0 := hE
  have k1 : E.ob (1, 0) = some (bx 27 (p.v.2.map .t)) := by rw [hob _ _ (by decide)]; simp
  have k2 : E.ob (2, 0) = some (bx 27 (q.v.2.map .t)) := by rw [hob _ _ (by decide)]; simp
  have k3 : E.ob (3, 0) = some (bx 27 [.nil, .nil]) := by rw [hob _ _ (by decide)]; simp
  have c1 : E.cnt 267 = 0 := by rw [hcnt _ (by decide)]; simp
  clear hob hcnt
  rcases hE with ⟨u1, _, u3⟩ | ⟨u1, n', hn', ga, u3, u4⟩
  all_goals
    first
    | (simp at hn'; subst hn')
    | skip
    rw [u3] at hE0
    simp [dw0, dw1, dw2, dw3, u3, k1, k2, k3]
    refine dCall_sorted (nm0 := 261) (zs := p.nodes ++ q.nodes) hE0 (by simp; omega) fun ob1 hob1 => ?_
    rw [compact_sort_eq rn]
    have j1 : ob1 (1, 0) = some (bx 27 (p.v.2.map .t)) := by rw [hob1 _ _ (by decide)]; exact k1
    have j2 : ob1 (2, 0) = some (bx 27 (q.v.2.map .t)) := by rw [hob1 _ _ (by decide)]; exact k2
    have j3 : ob1 (3, 0) = some (bx 27 [.nil, .nil]) := by rw [hob1 _ _ (by decide)]; exact k3
    simp [dw0, dw1, dw2, dw3, j1, j2, j3, c1]
    refine dCall_rowL (concat_row p.edges q.edges (by omega) (by omega)) ?_ fun E2 hE2 hob2 hcnt2 => ?_
    · simp [argTrees, argTree, twoL]
    have hE3 := hE2
    have m3 : E2.ob (3, 0) = some (bx 27 [.nil, .nil]) := by rw [hob2 _ _ (by decide)]; simp [j3]
    clear hob2 hcnt2
    rcases hE2 with ⟨t1, _, t3⟩ | ⟨t1, n2, hn2, gb, t3, t4⟩
    all_goals
      first
      | (simp at hn2; subst hn2)
      | skip
      rw [t3] at hE3
      simp [dw0, dw1, dw2, dw3, t3, m3]
      refine dCall_sorted (nm0 := 268) (zs := p.edges ++ q.edges) hE3 (by simp; omega) fun ob2 hob2 => ?_
      rw [compact_sort_eq re]
      have n3 : ob2 (3, 0) = some (bx 27 [.nil, .nil]) := by rw [hob2 _ _ (by decide)]; exact m3
      simp [dw0, dw1, dw2, dw3, joinP, n3]
      rfl
end Go.Proofs.Ythapbbpdcjmmfaa

/- Contracts: parts within parts; the closure of the law of least parts. -/
namespace Go.Proofs.Ythapbbpdcjmmfaa
open Abs
set_option linter.unusedSimpArgs false
set_option linter.unusedVariables false
attribute [local simp] rn0 rn1 rn2 rn3 rn4 rn5 rn6 rn7 evOp nests Arg.ev St.val St.set St.new sliceOf binInt2 binInt AV.cells rdAt St.live retOf resOf resAll treeOf treeCell treeCells treeTups untree frameOf TV.av TR.av ints edgs prs fillV splice intsOf trees V1.tree bx Gr.v Pa.v opRd opWr opNew opNewR opArgs argsRd argRd Arg.rd AV.refs V1.refs refsL dstL

def intoF (im l : List Int) (i : Nat) : Option Int := if nth im i ∈ l then some i else none
def intoL (im l : List Int) : List Int := collect (intoF im l) im.length
theorem into_all {im l : List Int} (h : ∀ x ∈ im, x ∈ l) : (intoL im l).length = im.length := by
  have key : ∀ k, k ≤ im.length → (collect (intoF im l) k).length = k := by
    intro k
    induction k with
    | zero => intro _; rfl
    | succ k ih =>
      intro hk
      rw [collect_some (x := (k : Int)) (by rw [intoF, if_pos (h _ (nth_mem (by omega)))]), List.length_append, ih (by omega)]
      rfl
  exact key _ (Nat.le_refl _)
def c_into7 : MFunc := ⟨24, [.tmp 4], .seq (.region [⟨some 4, .mv (.c (.one .nil)), none⟩]) (.seq (.region [⟨some 5, .mv (.c (.one .nil)), none⟩]) (.seq (.seq (.region [⟨some 6, .mv (.c (.one (.t (.int .i64 0)))), none⟩]) (.block 0 (.loop (.seq (.seq (.region [⟨some 7, .mv (.tmp 6), none⟩, ⟨some 8, .mv (.tmp 0), none⟩, ⟨some 9, .len (.tmp 8), none⟩, ⟨some 10, .bin .lss (.tmp 7) (.tmp 9), none⟩]) (.cond (.tmp 10) .skip (.exit 0))) (.seq (.block 1 (.seq (.region [⟨some 13, .mv (.tmp 1), none⟩, ⟨some 14, .mv (.tmp 0), none⟩, ⟨some 15, .mv (.tmp 6), none⟩, ⟨some 16, .idxA 1 (.tmp 14) (.tmp 15), none⟩, ⟨some 17, .load false 1 (.tmp 16), none⟩, ⟨some 18, .call (.c (.one (.fn 84 []))) 325 [.tmp 13, .tmp 17], none⟩]) (.cond (.tmp 18) (.region [⟨some 19, .mv (.tmp 5), none⟩, ⟨some 20, .mv (.tmp 6), none⟩, ⟨some 21, .mkrow 386 3 1 1 [.t (.int .i64 0)] [(0, (1, .tmp 20))], none⟩, ⟨some 22, .append 387 3 1 8 (.tmp 19) (.tmp 21), none⟩, ⟨some 5, .mv (.tmp 22), none⟩]) .skip))) (.region [⟨some 11, .mv (.tmp 6), none⟩, ⟨some 12, .bin .add (.tmp 11) (.c (.one (.t (.int .i64 1)))), none⟩, ⟨some 6, .mv (.tmp 12), none⟩])))))) (.seq (.region [⟨some 23, .mv (.tmp 5), none⟩, ⟨some 4, .mv (.tmp 23), none⟩]) .ret)))⟩
theorem k_into7 : cFn Try.prog Try.f62 = some c_into7 := by kernel_rfl
theorem into_row (im l : List Int) (hl : tiny im.length) (hk : tiny l.length) : RowI Try.prog 62 [(false, [ints im]), (false, [ints l])] 3 (intoL im l) := by
  refine callRow_W (plain_ints _) (by simp) (by omega) (callS_W (by kernel_rfl) Try.func62 k_into7 (callable_of Try.func62 (by kernel_rfl)) (by simp [c_into7]) ?_)
  simp [c_into7]
  refine loopW_count 6 im.length (fun k S => S.fr 0 = .one (.t (ints im)) ∧ S.fr 1 = .one (.t (ints l)) ∧ outR 387 3 1 (collect (intoF im l) k).length ((collect (intoF im l) k).map (.int .i64)) S.ob (S.fr 5)) hl.small ?_ ?_ ?_
  · simp [collect_zero, outR_nil]
  · rintro k S hlt hw hc ⟨f0, f1, ho⟩
    simp [f0, f1, hc, hlt, drop_nth hlt]
    refine callS_tree (has07_ok l (nth im k) hk.small) ?_ ?_ ?_
    · rfl
    · rfl
    by_cases hm : nth im k ∈ l
    · have e : intoF im l k = some (k : Int) := by simp [intoF, hm]
      have hlen := collect_len (f := intoF im l) (k := k)
      simp only [tiny] at hl
      simp [f0, f1, hc, hlt, hm, hw, drop_nth hlt]
      refine kApp_grow (ts := [.int .i64 k]) rfl (ho.keep fun g => by simp) (by omega) rfl (by omega) (by omega) fun E hE hob hcnt => ?_
      simp [f0, f1, hc, hw, collect_some e]
      simpa using hE
    · have e : intoF im l k = none := by simp [intoF, hm]
      simp [f0, f1, hc, hlt, hm, hw, collect_none e, ho]
  · rintro S hc ⟨f0, f1, ho⟩
    obtain ⟨u, hu⟩ := ho.one
    rw [hu] at ho
    simp [f0, f1, hc, hu]
    simpa [intoL] using ho.rowIs

def c_in7 : MFunc := ⟨27, [.tmp 4], .seq (.region [⟨some 2, .box 0 27 (.tmp 0), none⟩, ⟨some 3, .box 1 27 (.tmp 1), none⟩, ⟨some 4, .mv (.c (.one (.t (.bool false)))), none⟩]) (.seq (.draw [[], [0], [], [2], [1, 3], [4], [], [6], [7], [5, 8], [9, 4], [10], [11, 10], [10], [13, 10], [12, 14, 10, 10], [15, 10], [10], [17, 10], [18, 10], [16, 19, 10], [10, 20], [21, 15, 0, 1, 2, 3, 4, 5, 6, 7, 8, 9, 10, 11, 12, 13, 14, 15, 16, 17, 18, 19, 20, 21]] [⟨some 5, .fieldA 0 (.tmp 2), none⟩, ⟨some 6, .load false 1 (.tmp 5), none⟩, ⟨some 7, .fieldA 0 (.tmp 3), none⟩, ⟨some 8, .load false 1 (.tmp 7), none⟩, ⟨some 9, .call (.c (.one (.fn 62 []))) 68 [.tmp 6, .tmp 8], none⟩, ⟨some 10, .len (.tmp 9), none⟩, ⟨some 11, .fieldA 0 (.tmp 2), none⟩, ⟨some 12, .load false 1 (.tmp 11), none⟩, ⟨some 13, .len (.tmp 12), none⟩, ⟨some 14, .bin .eql (.tmp 10) (.tmp 13), none⟩, ⟨some 15, .mv (.tmp 14), none⟩, ⟨some 16, .fieldA 1 (.tmp 2), some (15, true)⟩, ⟨some 17, .load false 1 (.tmp 16), some (15, true)⟩, ⟨some 18, .fieldA 1 (.tmp 3), some (15, true)⟩, ⟨some 19, .load false 1 (.tmp 18), some (15, true)⟩, ⟨some 20, .call (.c (.one (.fn 62 []))) 79 [.tmp 17, .tmp 19], some (15, true)⟩, ⟨some 21, .len (.tmp 20), some (15, true)⟩, ⟨some 22, .fieldA 1 (.tmp 2), some (15, true)⟩, ⟨some 23, .load false 1 (.tmp 22), some (15, true)⟩, ⟨some 24, .len (.tmp 23), some (15, true)⟩, ⟨some 25, .bin .eql (.tmp 21) (.tmp 24), some (15, true)⟩, ⟨some 26, .pick (.tmp 15) (.tmp 25) (.c (.one (.t (.bool false)))), none⟩, ⟨some 4, .mv (.tmp 26), none⟩]) .ret)⟩
theorem k_in7 : cFn Try.prog Try.f34 = some c_in7 := by kernel_rfl
theorem in_ok (p q : Pa) (hp : tinyP p) (hq : tinyP q) (h1 : ∀ x ∈ p.nodes, x ∈ q.nodes) (h2 : ∀ x ∈ p.edges, x ∈ q.edges) : CallOK Try.prog 34 [p.v, q.v] (.sv (false, [.bool true])) := by
  refine callOK_W (callS_W (by kernel_rfl) Try.func34 k_in7 (callable_of Try.func34 (by kernel_rfl)) (by simp [c_in7]) ?_)
  have e1 := into_all h1
  have e2 := into_all h2
  simp [c_in7, dw0, dw1, dw2, dw3]
  refine dCall_rowL (into_row p.nodes q.nodes hp.1 hq.1) ?_ fun E hE hob hcnt => ?_
  · rfl
  have k0 : E.ob (0, 0) = some (bx 27 (p.v.2.map .t)) := by rw [hob _ _ (by decide)]; simp
  have k1 : E.ob (1, 0) = some (bx 27 (q.v.2.map .t)) := by rw [hob _ _ (by decide)]; simp
  clear hob hcnt
  rcases hE with ⟨u1, u2, u3⟩ | ⟨u1, n', hn', ga, u3, u4⟩
  all_goals
    first
    | (simp at hn'; subst hn'; simp [dw0, dw1, dw2, dw3, u3, u4, k0, k1, e1])
    | (rw [e1] at u1; simp [dw0, dw1, dw2, dw3, u3, k0, k1, u1])
    refine dCall_rowL (into_row p.edges q.edges hp.2 hq.2) ?_ fun E2 hE2 hob2 hcnt2 => ?_
    · simp [argTrees, argTree]
    have m0 : E2.ob (0, 0) = some (bx 27 (p.v.2.map .t)) := by rw [hob2 _ _ (by decide)]; simp [k0]
    clear hob2 hcnt2
    rcases hE2 with ⟨t1, t2, t3⟩ | ⟨t1, n2, hn2, gb, t3, t4⟩
    all_goals
      first
      | (simp at hn2; subst hn2; simp [dw0, dw1, dw2, dw3, t3, t4, m0, e2])
      | (rw [e2] at t1; simp [dw0, dw1, dw2, dw3, t3, m0, t1])
      rfl

def c_leastFn : MFunc := ⟨8, [.tmp 3], .seq (.region [⟨some 3, .mv (.c (.one (.t (.bool false)))), none⟩]) (.seq (.region [⟨some 4, .load false 1 (.tmp 1), none⟩, ⟨some 5, .mv (.tmp 0), none⟩, ⟨some 6, .call (.c (.one (.fn 33 []))) 66 [.tmp 4, .tmp 5], none⟩, ⟨some 7, .not (.tmp 6), none⟩, ⟨some 3, .mv (.tmp 7), none⟩]) .ret)⟩
theorem k_leastFn : cFn Try.prog Try.f32 = some c_leastFn := by kernel_rfl
theorem leastFn_S {ob : Nm → Option Ob} {cnt : Nat → Nat} {K : AV → (Nm → Option Ob) → (Nat → Nat) → Prop} (x : Int) (a : List Int) (ha : small a.length) (o : Nm) {typ : Nat} (ho : ob o = some (bx typ [.t (ints a)])) (hK : K (.one (.t (.bool (!decide (x ∈ a))))) ob cnt) :
    CallS Try.prog 32 [.one (.t (.int .i64 x)), .one (.ptr o 0)] ob cnt K := by
  refine callS_W (by kernel_rfl) Try.func32 k_leastFn (callable_of Try.func32 (by kernel_rfl)) (by simp [c_leastFn]) ?_
  simp [c_leastFn, ho]
  refine callS_tree (contains_ok a x ha) ?_ ?_ ?_
  · rfl
  · rfl
  simpa using hK
theorem containsLeast {ob : Nm → Option Ob} {cnt : Nat → Nat} {K : AV → (Nm → Option Ob) → (Nat → Nat) → Prop} (a b : List Int) (ha : small a.length) (hb : small b.length) (o : Nm) {typ : Nat} (ho : ob o = some (bx typ [.t (ints a)])) (hK : K (.one (.t (.bool (b.any fun x => !decide (x ∈ a))))) ob cnt) :
    CallS Try.prog 31 [.one (.t (ints b)), .one (.fn 32 [o])] ob cnt K :=
  containsF_S b _ hb (fun ob' cnt' => ob' = ob ∧ cnt' = cnt) (fun x _ ob' cnt' hi K hK => by
    obtain ⟨rfl, rfl⟩ := hi
    exact leastFn_S x a ha o ho (hK _ _ ⟨rfl, rfl⟩)) ⟨rfl, rfl⟩ (fun ob' cnt' hi => by
    obtain ⟨rfl, rfl⟩ := hi
    exact hK)
end Go.Proofs.Ythapbbpdcjmmfaa

/- Contracts: graphs of parts. -/
namespace Go.Proofs.Ythapbbpdcjmmfaa
open Abs
set_option linter.unusedSimpArgs false
set_option linter.unusedVariables false
attribute [local simp] rn0 rn1 rn2 rn3 rn4 rn5 rn6 rn7 evOp nests Arg.ev St.val St.set St.new sliceOf binInt2 binInt AV.cells rdAt St.live retOf resOf resAll treeOf treeCell treeCells treeTups untree frameOf TV.av TR.av ints edgs prs fillV splice intsOf trees V1.tree bx Gr.v Pa.v opRd opWr opNew opNewR opArgs argsRd argRd Arg.rd AV.refs V1.refs refsL dstL




/-! ### Parts without error -/
structure SubOk (g : Gr) (p : Pa) : Prop where
  gr : GrOk g
  an : Asc p.nodes
  ae : Asc p.edges
  rn : ∀ x ∈ p.nodes, 0 ≤ x ∧ x < g.nodes.length
  re : ∀ x ∈ p.edges, 0 ≤ x ∧ x < g.edges.length
  de : ∀ x ∈ p.edges, (eth g.edges x.toNat).f ∈ p.nodes ∧ (eth g.edges x.toNat).g ∈ p.nodes
theorem sub_of {g : Gr} {p : Pa} (h : subErr g p = 0) : SubOk g p := by
  have h0 : gErr g = 0 := by
    unfold subErr at h
    split at h
    · assumption
    · exact h
  have h1 : partErr g p = 0 := by
    unfold subErr at h
    rw [if_pos h0] at h
    exact h
  have h2 : ascErr p.nodes g.nodes.length = 0 := by
    unfold partErr at h1
    split at h1
    · assumption
    · exact h1
  have h3 : ascErr p.edges g.edges.length = 0 := by
    unfold partErr at h1
    rw [if_pos h2] at h1
    split at h1
    · assumption
    · exact h1
  have h4 : fe (danF g p) p.edges.length = 0 := by
    unfold partErr at h1
    rw [if_pos h2, if_pos h3] at h1
    exact h1
  obtain ⟨a1, a2⟩ := asc_of h2
  obtain ⟨b1, b2⟩ := asc_of h3
  refine ⟨gErr_ok h0, a1, b1, a2, b2, fun x hx => ?_⟩
  obtain ⟨i, hi, rfl⟩ := mem_nth hx
  have := fe_eq h4 i hi
  unfold danF at this
  split at this
  · assumption
  · cases this
theorem asc_len {l : List Int} {n : Nat} (ha : Asc l) (hr : ∀ x ∈ l, 0 ≤ x ∧ x < n) : l.length ≤ n := by
  have h : ∀ k, k < l.length → (k : Int) ≤ nth l k := by
    intro k
    induction k with
    | zero => intro hk; have := (hr _ (nth_mem hk)).1; omega
    | succ k ih => intro hk; have := ih (by omega); have := ha k (k + 1) (by omega) hk; omega
  rcases Nat.eq_zero_or_pos l.length with h0 | h0
  · omega
  · have h1 := h (l.length - 1) (by omega)
    have h2 := (hr _ (nth_mem (l := l) (k := l.length - 1) (by omega))).2
    omega
theorem bs_idx {l : List Int} {x : Int} (ha : Asc l) (hx : x ∈ l) : bs l x = idx l x := by
  obtain ⟨k, hk, rfl⟩ := mem_nth hx
  have h1 : bs l (nth l k) = k := by
    unfold bs
    rw [count_at (i := k) (by omega) (fun j hj => ha j k hj hk) (fun j h1 h2 => by
      rcases Nat.eq_or_lt_of_le h1 with e | e
      · rw [e]; exact Int.le_refl _
      · exact Int.le_of_lt (ha k j e h2))]
  have h2 : idx l (nth l k) = k := idx_at hk (fun h => by
    obtain ⟨j, hj, he⟩ := mem_nth h
    simp only [List.length_take] at hj
    have : nth (l.take k) j = nth l j := by
      rw [nth_eq (by simp; omega), nth_eq (by omega)]
      simp
    rw [this] at he
    have := ha j k (by omega) hk
    omega) rfl
  rw [h1, h2]

/-! ### The graph of a part -/
def exN (g : Gr) (p : Pa) (k : Nat) : List Int := (p.nodes.take k).map fun x => nth g.nodes x.toNat
def exD (g : Gr) (p : Pa) (x : Int) : Ed := ⟨(eth g.edges x.toNat).t, idx p.nodes (eth g.edges x.toNat).f, idx p.nodes (eth g.edges x.toNat).g⟩
def exE (g : Gr) (p : Pa) (k : Nat) : List Ed := (p.edges.take k).map (exD g p)
def exG (g : Gr) (p : Pa) : Gr := ⟨p.nodes.map fun x => nth g.nodes x.toNat, p.edges.map (exD g p)⟩
theorem exN_succ {g : Gr} {p : Pa} {k : Nat} (h : k < p.nodes.length) : exN g p (k + 1) = exN g p k ++ [nth g.nodes (nth p.nodes k).toNat] := by
  rw [exN, take_succ_nth' h]
  simp [exN]
theorem exE_succ {g : Gr} {p : Pa} {k : Nat} (h : k < p.edges.length) : exE g p (k + 1) = exE g p k ++ [exD g p (nth p.edges k)] := by
  rw [exE, take_succ_nth' h]
  simp [exE]
theorem exN_all {g : Gr} {p : Pa} : exN g p p.nodes.length = (exG g p).nodes := by simp [exN, exG]
theorem exE_all {g : Gr} {p : Pa} : exE g p p.edges.length = (exG g p).edges := by simp [exE, exG]
theorem exN_len {g : Gr} {p : Pa} {k : Nat} (h : k ≤ p.nodes.length) : (exN g p k).length = k := by simp [exN]; omega
theorem exE_len {g : Gr} {p : Pa} {k : Nat} (h : k ≤ p.edges.length) : (exE g p k).length = k := by simp [exE]; omega
/-- The graph of a part and its inclusion, or an error. -/
def exR (g : Gr) (p : Pa) : Gr × Pa × Int := if subErr g p = 0 then (exG g p, p, 0) else (⟨[], []⟩, ⟨[], []⟩, subErr g p)
def exT (x : Gr × Pa × Int) : TR := .tup [x.1.v, x.2.1.v, (false, [.int .i64 x.2.2])]


def c_sextract : MFunc := ⟨85, [.cell 4 true 2, .cell 5 true 2, .tmp 6], .seq (.region [⟨some 2, .box 0 25 (.tmp 0), none⟩, ⟨some 3, .box 1 27 (.tmp 1), none⟩, ⟨some 4, .alloc 2 25 [.nil, .nil], none⟩, ⟨some 5, .alloc 3 28 [.nil, .nil], none⟩, ⟨some 6, .mv (.c (.one (.t (.int .i64 0)))), none⟩]) (.seq (.seq (.region [⟨some 14, .load true 2 (.tmp 2), none⟩, ⟨some 15, .load true 2 (.tmp 3), none⟩, ⟨some 16, .call (.c (.one (.fn 63 []))) 66 [.tmp 14, .tmp 15], none⟩, ⟨some 7, .mv (.tmp 16), none⟩]) (.seq (.region [⟨some 17, .mv (.tmp 7), none⟩, ⟨some 18, .bin .neq (.tmp 17) (.c (.one (.t (.int .i64 0)))), none⟩]) (.cond (.tmp 18) (.seq (.region [⟨some 19, .build [.nil, .nil] [], none⟩, ⟨some 20, .build [.nil, .nil] [], none⟩, ⟨some 21, .mv (.tmp 7), none⟩, ⟨none, .store 2 (.tmp 4) (.tmp 19), none⟩, ⟨none, .store 2 (.tmp 5) (.tmp 20), none⟩, ⟨some 6, .mv (.tmp 21), none⟩]) .ret) .skip))) (.seq (.region [⟨some 8, .alloc 256 25 [.nil, .nil], none⟩]) (.seq (.seq (.region [⟨some 22, .fieldA 0 (.tmp 3), none⟩, ⟨some 23, .load false 1 (.tmp 22), none⟩, ⟨some 24, .len (.tmp 23), none⟩, ⟨some 25, .mv (.c (.one (.t (.int .i64 0)))), none⟩]) (.block 0 (.loop (.seq (.region [⟨some 26, .bin .lss (.tmp 25) (.tmp 24), none⟩]) (.seq (.cond (.tmp 26) .skip (.exit 0)) (.seq (.block 1 (.seq (.region [⟨some 27, .idxA 1 (.tmp 23) (.tmp 25), none⟩, ⟨some 28, .load false 1 (.tmp 27), none⟩, ⟨some 10, .mv (.tmp 28), none⟩]) (.draw [[], [0], [], [2], [], [3, 4], [5], [6], [1, 7], [0, 1, 2, 3, 4, 5, 6, 7, 8], [9, 8, 8, 0, 1, 2, 3, 4, 5, 6, 7, 8]] [⟨some 29, .fieldA 0 (.tmp 8), none⟩, ⟨some 30, .load false 1 (.tmp 29), none⟩, ⟨some 31, .fieldA 0 (.tmp 2), none⟩, ⟨some 32, .load false 1 (.tmp 31), none⟩, ⟨some 33, .mv (.tmp 10), none⟩, ⟨some 34, .idxA 1 (.tmp 32) (.tmp 33), none⟩, ⟨some 35, .load false 1 (.tmp 34), none⟩, ⟨some 36, .mkrow 519 3 1 1 [.t (.int .i64 0)] [(0, (1, .tmp 35))], none⟩, ⟨some 37, .append 520 3 1 8 (.tmp 30) (.tmp 36), none⟩, ⟨some 38, .fieldA 0 (.tmp 8), none⟩, ⟨none, .store 1 (.tmp 38) (.tmp 37), none⟩]))) (.region [⟨some 39, .bin .add (.tmp 25) (.c (.one (.t (.int .i64 1)))), none⟩, ⟨some 25, .mv (.tmp 39), none⟩]))))))) (.seq (.seq (.region [⟨some 40, .fieldA 1 (.tmp 3), none⟩, ⟨some 41, .load false 1 (.tmp 40), none⟩, ⟨some 42, .len (.tmp 41), none⟩, ⟨some 43, .mv (.c (.one (.t (.int .i64 0)))), none⟩]) (.block 2 (.loop (.seq (.region [⟨some 44, .bin .lss (.tmp 43) (.tmp 42), none⟩]) (.seq (.cond (.tmp 44) .skip (.exit 2)) (.seq (.block 3 (.seq (.region [⟨some 45, .idxA 1 (.tmp 41) (.tmp 43), none⟩, ⟨some 46, .load false 1 (.tmp 45), none⟩, ⟨some 12, .mv (.tmp 46), none⟩]) (.seq (.region [⟨some 47, .fieldA 1 (.tmp 2), none⟩, ⟨some 48, .load false 1 (.tmp 47), none⟩, ⟨some 49, .mv (.tmp 12), none⟩, ⟨some 50, .idxA 3 (.tmp 48) (.tmp 49), none⟩, ⟨some 51, .load true 3 (.tmp 50), none⟩, ⟨some 13, .alloc 837 73 [.t (.int .i64 0), .t (.int .i64 0), .t (.int .i64 0)], none⟩, ⟨none, .store 3 (.tmp 13) (.tmp 51), none⟩]) (.seq (.region [⟨some 53, .fieldA 0 (.tmp 3), none⟩, ⟨some 54, .load false 1 (.tmp 53), none⟩, ⟨some 55, .fieldA 1 (.tmp 13), none⟩, ⟨some 56, .load false 1 (.tmp 55), none⟩, ⟨some 57, .call (.c (.one (.fn 64 []))) 900 [.tmp 54, .tmp 56], none⟩, ⟨some 52, .mv (.tmp 57), none⟩, ⟨some 58, .extract (.tmp 52) 0, none⟩, ⟨some 59, .extract (.tmp 52) 1, none⟩, ⟨some 60, .fieldA 1 (.tmp 13), none⟩, ⟨none, .store 1 (.tmp 60) (.tmp 58), none⟩]) (.seq (.region [⟨some 62, .fieldA 0 (.tmp 3), none⟩, ⟨some 63, .load false 1 (.tmp 62), none⟩, ⟨some 64, .fieldA 2 (.tmp 13), none⟩, ⟨some 65, .load false 1 (.tmp 64), none⟩, ⟨some 66, .call (.c (.one (.fn 64 []))) 964 [.tmp 63, .tmp 65], none⟩, ⟨some 61, .mv (.tmp 66), none⟩, ⟨some 67, .extract (.tmp 61) 0, none⟩, ⟨some 68, .extract (.tmp 61) 1, none⟩, ⟨some 69, .fieldA 2 (.tmp 13), none⟩, ⟨none, .store 1 (.tmp 69) (.tmp 67), none⟩]) (.region [⟨some 70, .fieldA 1 (.tmp 8), none⟩, ⟨some 71, .load false 1 (.tmp 70), none⟩, ⟨some 72, .load true 3 (.tmp 13), none⟩, ⟨some 73, .mkrow 1027 73 3 1 [.t (.int .i64 0), .t (.int .i64 0), .t (.int .i64 0)] [(0, (3, .tmp 72))], none⟩, ⟨some 74, .append 1028 73 3 24 (.tmp 71) (.tmp 73), none⟩, ⟨some 75, .fieldA 1 (.tmp 8), none⟩, ⟨none, .store 1 (.tmp 75) (.tmp 74), none⟩])))))) (.region [⟨some 76, .bin .add (.tmp 43) (.c (.one (.t (.int .i64 1)))), none⟩, ⟨some 43, .mv (.tmp 76), none⟩]))))))) (.seq (.draw [[], [], [1], [2], [], [4], [5, 3], [3, 6], [0, 6, 0], [7, 8, 0, 1, 2, 3, 4, 5, 6, 7, 8], [9, 0, 1, 2, 3, 4, 5, 6, 7, 8, 9]] [⟨some 77, .load true 2 (.tmp 8), none⟩, ⟨some 78, .fieldA 0 (.tmp 3), none⟩, ⟨some 79, .load false 1 (.tmp 78), none⟩, ⟨some 80, .call (.c (.one (.fn 45 []))) 1155 [.tmp 79], none⟩, ⟨some 81, .fieldA 1 (.tmp 3), none⟩, ⟨some 82, .load false 1 (.tmp 81), none⟩, ⟨some 83, .call (.c (.one (.fn 45 []))) 1158 [.tmp 82], none⟩, ⟨some 84, .build [.nil, .nil] [(0, (1, .tmp 80)), (1, (1, .tmp 83))], none⟩, ⟨none, .store 2 (.tmp 4) (.tmp 77), none⟩, ⟨none, .store 2 (.tmp 5) (.tmp 84), none⟩, ⟨some 6, .mv (.c (.one (.t (.int .i64 0)))), none⟩]) .ret)))))⟩
theorem k_sextract : cFn Try.prog Try.f36 = some c_sextract := by kernel_rfl
set_option maxHeartbeats 4000000 in
theorem sextract_ok (g : Gr) (p : Pa) (tg : tinyG g) (tp : tinyP p) : CallOK Try.prog 36 [g.v, p.v] (exT (exR g p)) := by
  refine callOK_W (callS_W (by kernel_rfl) Try.func36 k_sextract (callable_of Try.func36 (by kernel_rfl)) (by simp [c_sextract]) ?_)
  simp [c_sextract]
  refine callS_tree (svalid_ok g p tg tp) ?_ ?_ ?_
  · rfl
  · rfl
  by_cases h1 : subErr g p = 0
  case neg =>
    have e : exR g p = (⟨[], []⟩, ⟨[], []⟩, subErr g p) := by simp [exR, h1]
    simp [h1, exT, e, edL]
  have e : exR g p = (exG g p, p, 0) := by simp [exR, h1]
  have ok := sub_of h1
  have b1 := ok.gr.n
  have b2 := ok.gr.e
  have b3 := asc_len ok.an ok.rn
  have b4 := asc_len ok.ae ok.re
  simp [h1]
  refine loopW_count 25 p.nodes.length (fun k S => S.fr 2 = .one (.ptr (0, 0) 0) ∧ S.fr 3 = .one (.ptr (1, 0) 0) ∧ S.fr 4 = .one (.ptr (2, 0) 0) ∧ S.fr 5 = .one (.ptr (3, 0) 0) ∧ S.fr 8 = .one (.ptr (256, 0) 0) ∧ S.fr 23 = .one (.t (ints p.nodes)) ∧ S.fr 24 = .one (.t (.int .i64 p.nodes.length)) ∧
    S.ob (0, 0) = some (bx 25 (g.v.2.map .t)) ∧ S.ob (1, 0) = some (bx 27 (p.v.2.map .t)) ∧ S.ob (2, 0) = some (bx 25 [.nil, .nil]) ∧ S.ob (3, 0) = some (bx 28 [.nil, .nil]) ∧
    ∃ vN, S.ob (256, 0) = some (bx 25 [vN, .nil]) ∧ outR 520 3 1 (exN g p k).length ((exN g p k).map (.int .i64)) S.ob (.one vN)) (by omega) ?_ ?_ ?_
  · simp [exN, outR_nil]
  · rintro k S hlt hw hc ⟨f2, f3, f4, f5, f8, f23, f24, o0, o1, o2, o3, vN, o256, ho⟩
    obtain ⟨x1, x2⟩ := ok.rn _ (nth_mem hlt)
    obtain ⟨x, hx⟩ := Int.eq_ofNat_of_zero_le x1
    have hx2 : x < g.nodes.length := by omega
    have z := exN_len (g := g) (p := p) (k := k) (by omega)
    have zs := exN_succ (g := g) hlt
    rw [hx, Int.toNat_natCast] at zs
    have ho0 := ho
    rcases ho with ⟨a1, _, a3⟩ | ⟨a1, ga, a3, a4⟩
    all_goals
      cases a3
      simp [dw0, dw1, dw2, dw3, f2, f3, f4, f5, f8, f23, f24, o0, o1, o2, o3, o256, hc, hlt, drop_nth hlt, hx, hx2, drop_nth hx2]
      refine kApp_grow (ts := [.int .i64 (nth g.nodes x)]) rfl (ho0.keep fun g => by simp) (by omega) rfl (by omega) (by omega) fun E hE hob hcnt => ?_
      obtain ⟨w, hu⟩ := hE.one
      rw [hu] at hE
      simp [dw0, dw1, dw2, dw3, f2, f3, f4, f5, f8, f23, f24, o0, o1, o2, o3, o256, hc, hob, hu]
      refine ⟨rfl, ?_⟩
      simp [f2, f3, f4, f5, f8, f23, f24, o0, o1, o2, o3, o256, hc, hw, hob, hu, zs]
      exact outR.keep (by simpa using hE) fun g => by simp
  · rintro S hc ⟨f2, f3, f4, f5, f8, f23, f24, o0, o1, o2, o3, vN, o256, ho⟩
    rw [exN_all] at ho
    simp [f2, f3, f4, f5, f8, f23, f24, o0, o1, o2, o3, o256, hc]
    refine loopW_count 43 p.edges.length (fun k S => S.fr 2 = .one (.ptr (0, 0) 0) ∧ S.fr 3 = .one (.ptr (1, 0) 0) ∧ S.fr 4 = .one (.ptr (2, 0) 0) ∧ S.fr 5 = .one (.ptr (3, 0) 0) ∧ S.fr 8 = .one (.ptr (256, 0) 0) ∧ S.fr 41 = .one (.t (ints p.edges)) ∧ S.fr 42 = .one (.t (.int .i64 p.edges.length)) ∧
      S.ob (0, 0) = some (bx 25 (g.v.2.map .t)) ∧ S.ob (1, 0) = some (bx 27 (p.v.2.map .t)) ∧ S.ob (2, 0) = some (bx 25 [.nil, .nil]) ∧ S.ob (3, 0) = some (bx 28 [.nil, .nil]) ∧
      outR 520 3 1 (exG g p).nodes.length ((exG g p).nodes.map (.int .i64)) S.ob (.one vN) ∧
      ∃ vE, S.ob (256, 0) = some (bx 25 [vN, vE]) ∧ outR 1028 73 3 (exE g p k).length (edL (exE g p k)) S.ob (.one vE)) (by omega) ?_ ?_ ?_
    · simp [f2, f3, f4, f5, f8, o0, o1, o2, o3, o256, exE, edL, outR_nil]
      simpa using ho
    · rintro k S hlt hw hc ⟨f2, f3, f4, f5, f8, f41, f42, o0, o1, o2, o3, hN, vE, o256, ho⟩
      obtain ⟨x1, x2⟩ := ok.re _ (nth_mem hlt)
      obtain ⟨d1, d2⟩ := ok.de _ (nth_mem hlt)
      obtain ⟨x, hx⟩ := Int.eq_ofNat_of_zero_le x1
      rw [hx, Int.toNat_natCast] at d1 d2
      have hx2 : x < g.edges.length := by omega
      have hx3 : x * 3 < g.edges.length * 3 := by omega
      have z := exE_len (g := g) (p := p) (k := k) (by omega)
      have zs := exE_succ (g := g) hlt
      have zd : exD g p (nth p.edges k) = ⟨(eth g.edges x).t, idx p.nodes (eth g.edges x).f, idx p.nodes (eth g.edges x).g⟩ := by simp [exD, hx]
      have s1 := bs_idx ok.an d1
      have s2 := bs_idx ok.an d2
      have ho0 := ho
      rcases ho with ⟨a1, _, a3⟩ | ⟨a1, ga, a3, a4⟩
      all_goals
        cases a3
        simp [f2, f3, f4, f5, f8, f41, f42, o0, o1, o2, o3, o256, hc, hlt, drop_nth hlt, hx, hx2, hx3, drop_edL hx2]
        refine callS_tree (bsearch_ok p.nodes (eth g.edges x).f tp.1 ok.an) ?_ ?_ ?_
        · rfl
        · rfl
        simp [f2, f3, f4, f5, f8, f41, f42, o0, o1, o2, o3, o256, hc, s1]
        refine callS_tree (bsearch_ok p.nodes (eth g.edges x).g tp.1 ok.an) ?_ ?_ ?_
        · rfl
        · rfl
        simp [f2, f3, f4, f5, f8, f41, f42, o0, o1, o2, o3, o256, hc, s2]
        refine kApp_grow (ts := edC ⟨(eth g.edges x).t, idx p.nodes (eth g.edges x).f, idx p.nodes (eth g.edges x).g⟩) rfl (ho0.keep fun g => by simp) (by omega) rfl (by omega) (by omega) fun E hE hob hcnt => ?_
        obtain ⟨w, hu⟩ := hE.one
        rw [hu] at hE
        have hN2 := hN.keep (ob' := E.ob) fun g => by rw [hob _ _ (by decide)]; simp
        simp [f2, f3, f4, f5, f8, f41, f42, o0, o1, o2, o3, o256, hc, hw, hob, hu, zs, zd]
        exact ⟨outR.keep (by simpa using hN2) fun g => by simp, outR.keep (by simpa [edL, Nat.add_assoc] using hE) fun g => by simp⟩
    · rintro S hc ⟨f2, f3, f4, f5, f8, f41, f42, o0, o1, o2, o3, hN, vE, o256, ho⟩
      rw [exE_all] at ho
      rw [e, exT]
      generalize exG g p = X at hN ho ⊢
      rcases hN with ⟨n1, n2, n3⟩ | ⟨n1, gg, n3, n4⟩ <;> rcases ho with ⟨m1, m2, m3⟩ | ⟨m1, gg', m3, m4⟩
      all_goals
        cases n3
        cases m3
        simp [dw0, dw1, dw2, dw3, f2, f3, f4, f5, f8, f41, f42, o0, o1, o2, o3, o256, hc]
        refine dCall_ok (clone_row p.nodes tp.1).ok ?_ ?_ ?_
        · rfl
        · rfl
        simp [dw0, dw1, dw2, dw3, f2, f3, f4, f5, f8, f41, f42, o0, o1, o2, o3, o256, hc]
        refine dCall_ok (clone_row p.edges tp.2).ok ?_ ?_ ?_
        · rfl
        · rfl
      · have x1 : X.nodes = [] := List.eq_nil_of_length_eq_zero (by omega)
        have x2 : X.edges = [] := List.eq_nil_of_length_eq_zero (by omega)
        simp [dw0, dw1, dw2, dw3, f2, f3, f4, f5, f8, f41, f42, o0, o1, o2, o3, o256, hc, x1, x2, edL]
        rfl
      · have x1 : X.nodes = [] := List.eq_nil_of_length_eq_zero (by omega)
        simp [dw0, dw1, dw2, dw3, f2, f3, f4, f5, f8, f41, f42, o0, o1, o2, o3, o256, hc, x1, m4, edL, untreeT, untreeI]
        rfl
      · have x2 : X.edges = [] := List.eq_nil_of_length_eq_zero (by omega)
        simp [dw0, dw1, dw2, dw3, f2, f3, f4, f5, f8, f41, f42, o0, o1, o2, o3, o256, hc, x2, n4, edL, untreeT, untreeI]
        rfl
      · simp [dw0, dw1, dw2, dw3, f2, f3, f4, f5, f8, f41, f42, o0, o1, o2, o3, o256, hc, n4, m4, untreeT, untreeI]
        rfl
end Go.Proofs.Ythapbbpdcjmmfaa

/- Contract: initial pushouts (program). -/
namespace Go.Proofs.Ythapbbpdcjmmfaa
open Abs
set_option linter.unusedSimpArgs false
set_option linter.unusedVariables false

/-! ### Rows in a pair that is handed over -/
def outF (nm typ esz n : Nat) (cs : List Abs.C) (ob : Nm → Option Ob) (v : AV) : Prop :=
  (n = 0 ∧ cs = [] ∧ v = .one .nil) ∨ (0 < n ∧ ∃ g, v = .one (.row (nm, g)) ∧ ob (nm, g) = some ⟨true, true, true, esz, n, typ, cs.map .t⟩)
theorem outF.keep {nm typ esz n : Nat} {cs : List Abs.C} {ob ob' : Nm → Option Ob} {v : AV} (h : outF nm typ esz n cs ob v) (ho : ∀ g, ob' (nm, g) = ob (nm, g)) : outF nm typ esz n cs ob' v := by
  rcases h with h | ⟨h1, g, h2, h3⟩
  · exact .inl h
  · exact .inr ⟨h1, g, h2, by rw [ho]; exact h3⟩
theorem outF.treeC {nm typ esz n : Nat} {cs : List Abs.C} {ob : Nm → Option Ob} {u : V1} (h : outF nm typ esz n cs ob (.one u)) (fr : Nat → AV) (cnt : Nat → Nat) : treeCell ⟨fr, ob, cnt⟩ u = some (.sl n cs) := by
  rcases h with ⟨rfl, rfl, h3⟩ | ⟨h1, g, h3, h4⟩
  · cases h3
    rfl
  · cases h3
    exact treeCell_row h4
theorem argTree_two {S : St} {u v : V1} : argTree S (.agg [u, v]) = (treeCell S u).bind fun c => (treeCell S v).map fun d => (true, [c, d]) := by
  cases h1 : treeCell S u <;> cases h2 : treeCell S v <;> simp [argTree, treeCells, h1, h2]
theorem still_two {S : St} {u v : V1} : AV.still S (.agg [u, v]) = (u.still S && (v.still S && true)) := Eq.trans rfl rfl
theorem still_nil {S : St} : V1.still S .nil = true := Eq.trans rfl rfl
theorem still_row {fr : Nat → AV} {ob : Nm → Option Ob} {cnt : Nat → Nat} {o : Nm} {esz n typ : Nat} {cs : List V1} (h : ob o = some ⟨true, true, true, esz, n, typ, cs⟩) : V1.still ⟨fr, ob, cnt⟩ (.row o) = true := by simp [V1.still, St.live, h]
theorem callS_part {P : Program} {f : FuncId} {x : AV} {tx : TV} {v1 v2 : V1} {n1 n2 t1 t2 k1 k2 e1 e2 : Nat} {a b : List Abs.C} {r : TR} {ob : Nm → Option Ob} {cnt : Nat → Nat} {R : AV → (Nm → Option Ob) → (Nat → Nat) → Prop}
    (h : CallOK P f [tx, (true, [.sl n1 a, .sl n2 b])] r) (hx : ∀ ob cnt, argTree ⟨fun _ => .undef, ob, cnt⟩ x = some tx ∧ x.still ⟨fun _ => .undef, ob, cnt⟩ = true)
    (h1 : outR k1 t1 e1 n1 a ob (.one v1)) (h2 : outR k2 t2 e2 n2 b ob (.one v2)) (hd : k1 ≠ k2)
    (hR : ∀ ob', outF k1 t1 e1 n1 a ob' (.one v1) → outF k2 t2 e2 n2 b ob' (.one v2) → (∀ nm g, nm ≠ k1 → nm ≠ k2 → ob' (nm, g) = ob (nm, g)) → R r.av ob' cnt) : CallS P f [x, .agg [v1, v2]] ob cnt R := by
  have hx1 := fun ob => (hx ob cnt).1
  have hx2 := fun ob => (hx ob cnt).2
  have fin : ∀ ob', outF k1 t1 e1 n1 a ob' (.one v1) → outF k2 t2 e2 n2 b ob' (.one v2) → (∀ nm g, nm ≠ k1 → nm ≠ k2 → ob' (nm, g) = ob (nm, g)) → CallS P f [x, .agg [v1, v2]] ob' cnt R := by
    intro ob' g1 g2 g3
    refine callS_tree h ?_ ?_ (hR ob' g1 g2 g3)
    · simp [argTrees, hx1, argTree_two, g1.treeC, g2.treeC]
    · have s1 : V1.still ⟨fun _ => .undef, ob', cnt⟩ v1 = true := by
        rcases g1 with ⟨_, _, q⟩ | ⟨_, g, q, q'⟩ <;> cases q
        · exact still_nil
        · exact still_row q'
      have s2 : V1.still ⟨fun _ => .undef, ob', cnt⟩ v2 = true := by
        rcases g2 with ⟨_, _, q⟩ | ⟨_, g, q, q'⟩ <;> cases q
        · exact still_nil
        · exact still_row q'
      simp [hx2, still_two, s1, s2]
  rcases h1 with ⟨p1, p2, p3⟩ | ⟨p1, g1, p3, o1⟩ <;> rcases h2 with ⟨q1, q2, q3⟩ | ⟨q1, g2, q3, o2⟩
  · exact fin ob (.inl ⟨p1, p2, p3⟩) (.inl ⟨q1, q2, q3⟩) fun _ _ _ _ => rfl
  · refine callS_freeze [(k2, g2)] (fin _ (.inl ⟨p1, p2, p3⟩) (.inr ⟨q1, g2, q3, ?_⟩) fun nm g e1 e2 => ?_)
    · simp [frzAll, frzOne, o2, upd_same]
    · have : (nm, g) ≠ (k2, g2) := fun e => e2 (by cases e; rfl)
      simp [frzAll, frzOne, o2, upd_ne _ _ this]
  · refine callS_freeze [(k1, g1)] (fin _ (.inr ⟨p1, g1, p3, ?_⟩) (.inl ⟨q1, q2, q3⟩) fun nm g e1 e2 => ?_)
    · simp [frzAll, frzOne, o1, upd_same]
    · have : (nm, g) ≠ (k1, g1) := fun e => e1 (by cases e; rfl)
      simp [frzAll, frzOne, o1, upd_ne _ _ this]
  · have hne : (k2, g2) ≠ (k1, g1) := fun e => hd (by cases e; rfl)
    have hne' : (k1, g1) ≠ (k2, g2) := fun e => hne e.symm
    have w1 : frzAll [(k1, g1), (k2, g2)] ob = upd (upd ob (k1, g1) (some ⟨true, true, true, e1, n1, t1, a.map .t⟩)) (k2, g2) (some ⟨true, true, true, e2, n2, t2, b.map .t⟩) := by
      simp [frzAll, frzOne, o1, upd_ne _ _ hne, o2]
    refine callS_freeze [(k1, g1), (k2, g2)] ?_
    rw [w1]
    refine fin _ (.inr ⟨p1, g1, p3, ?_⟩) (.inr ⟨q1, g2, q3, ?_⟩) fun nm g f1 f2 => ?_
    · rw [upd_ne _ _ hne', upd_same]
    · rw [upd_same]
    · have f1 : (nm, g) ≠ (k1, g1) := fun e => f1 (by cases e; rfl)
      have f2 : (nm, g) ≠ (k2, g2) := fun e => f2 (by cases e; rfl)
      rw [upd_ne _ _ f2, upd_ne _ _ f1]

/-! ### What the initial pushout is made of -/
def bnS (m : Pa) (l : List Int) (x : Int) : List Int := if 0 ≤ idx m.nodes x ∧ idx m.nodes x ∉ l then l ++ [idx m.nodes x] else l
def bnU (m : Pa) (b : Gr) : Nat → List Int
  | 0 => []
  | k + 1 => if (k : Int) ∈ m.edges then bnU m b k else bnS m (bnS m (bnU m b k) (eth b.edges k).f) (eth b.edges k).g
theorem bnS_len {m : Pa} {l : List Int} {x : Int} : (bnS m l x).length ≤ l.length + 1 := by
  unfold bnS
  split <;> simp
theorem bnU_len {m : Pa} {b : Gr} : ∀ k, (bnU m b k).length ≤ 2 * k
  | 0 => by simp [bnU]
  | k + 1 => by
    have ih := bnU_len (m := m) (b := b) k
    unfold bnU
    split
    · omega
    · have h1 := bnS_len (m := m) (l := bnU m b k) (x := (eth b.edges k).f)
      have h2 := bnS_len (m := m) (l := bnS m (bnU m b k) (eth b.edges k).f) (x := (eth b.edges k).g)
      omega
def bndL (m : Pa) (b : Gr) : List Int := (bnU m b b.edges.length).mergeSort fun x y => decide (x ≤ y)
def cxF (m : Pa) (k : Nat) : Option Int := if (k : Int) ∈ m.edges then none else some (k : Int)
def cxL (m : Pa) (b : Gr) : List Int := collect (cxF m) b.edges.length
def cnF (m : Pa) (B : List Int) (k : Nat) : Option Int := if idx m.nodes k < 0 ∨ idx m.nodes k ∈ B then some (k : Int) else none
def cnL (m : Pa) (b : Gr) : List Int := collect (cnF m (bndL m b)) b.nodes.length
def inK (m : Pa) (b : Gr) (k : Nat) : List Int := ((bndL m b).take k).map fun i => idx (cnL m b) (nth m.nodes i.toNat)
def inG (m : Pa) (b : Gr) : List Int := (bndL m b).map fun i => idx (cnL m b) (nth m.nodes i.toNat)
theorem inK_succ {m : Pa} {b : Gr} {k : Nat} (h : k < (bndL m b).length) : inK m b (k + 1) = inK m b k ++ [idx (cnL m b) (nth m.nodes (nth (bndL m b) k).toNat)] := by
  rw [inK, take_succ_nth' h]
  simp [inK]
theorem inK_all {m : Pa} {b : Gr} : inK m b (bndL m b).length = inG m b := by simp [inK, inG]
theorem inK_len {m : Pa} {b : Gr} {k : Nat} (h : k ≤ (bndL m b).length) : (inK m b k).length = k := by simp [inK]; omega
def inB (m : Pa) (b : Gr) : Pa := ⟨bndL m b, []⟩
def inC (m : Pa) (b : Gr) : Pa := ⟨cnL m b, cxL m b⟩
/-- The initial pushout over an injective morphism. -/
def inS (a b : Gr) (m : Pa) : Sq := ⟨exG a (inB m b), a, exG b (inC m b), b, inB m b, ⟨inG m b, []⟩, m, inC m b⟩
def noS : Sq := ⟨⟨[], []⟩, ⟨[], []⟩, ⟨[], []⟩, ⟨[], []⟩, ⟨[], []⟩, ⟨[], []⟩, ⟨[], []⟩, ⟨[], []⟩⟩
def inE (a b : Gr) (m : Pa) : Int := if morErr a b m = 0 then if injB a b m = true then 0 else 15 else morErr a b m
def inR (a b : Gr) (m : Pa) : Sq × Int := if inE a b m = 0 then (inS a b m, 0) else (noS, inE a b m)
def sqT (x : Sq × Int) : TR := .tup [x.1.v, (false, [.int .i64 x.2])]

theorem idx_lt {l : List Int} {x : Int} (h : x ∈ l) : 0 ≤ idx l x ∧ idx l x < l.length ∧ nth l (idx l x).toNat = x := by
  have h1 : l.idxOf x < l.length := List.idxOf_lt_length_iff.2 h
  simp only [idx, if_pos h, Int.toNat_natCast]
  refine ⟨by omega, by omega, ?_⟩
  rw [nth_eq h1, List.getElem_idxOf]
theorem idx_neg {l : List Int} {x : Int} : idx l x < 0 ↔ x ∉ l := by
  unfold idx
  split
  · exact ⟨fun h => by omega, fun h => absurd (by assumption) h⟩
  · exact ⟨fun _ => by assumption, fun _ => by omega⟩
theorem bnS_mem {m : Pa} {l : List Int} {x y : Int} : y ∈ bnS m l x ↔ y ∈ l ∨ (0 ≤ y ∧ y = idx m.nodes x) := by
  unfold bnS
  split
  · rename_i h
    simp only [List.mem_append, List.mem_singleton]
    exact ⟨fun h' => h'.imp id fun e => ⟨by rw [e]; exact h.1, e⟩, fun h' => h'.imp id fun e => e.2⟩
  · rename_i h
    refine ⟨.inl, fun h' => h'.elim id fun e => ?_⟩
    rcases e with ⟨e1, rfl⟩
    by_cases e3 : idx m.nodes x ∈ l
    · exact e3
    · exact absurd ⟨e1, e3⟩ h
theorem bnS_nodup {m : Pa} {l : List Int} {x : Int} (h : l.Nodup) : (bnS m l x).Nodup := by
  unfold bnS
  split
  · rename_i h'
    rw [List.nodup_append]
    refine ⟨h, by simp, fun a ha b hb => ?_⟩
    simp only [List.mem_singleton] at hb
    subst hb
    exact fun e => h'.2 (e ▸ ha)
  · exact h
theorem bnU_nodup {m : Pa} {b : Gr} : ∀ k, (bnU m b k).Nodup
  | 0 => by simp [bnU]
  | k + 1 => by
    unfold bnU
    split
    · exact bnU_nodup k
    · exact bnS_nodup (bnS_nodup (bnU_nodup k))
theorem bnU_mem {m : Pa} {b : Gr} {y : Int} : ∀ {k : Nat}, y ∈ bnU m b k ↔ ∃ i : Nat, i < k ∧ (i : Int) ∉ m.edges ∧ 0 ≤ y ∧ (y = idx m.nodes (eth b.edges i).f ∨ y = idx m.nodes (eth b.edges i).g)
  | 0 => by simp [bnU]
  | k + 1 => by
    have ih := bnU_mem (m := m) (b := b) (y := y) (k := k)
    unfold bnU
    split
    · rename_i h
      rw [ih]
      refine ⟨fun ⟨i, h1, h2⟩ => ⟨i, by omega, h2⟩, fun ⟨i, h1, h2, h3⟩ => ⟨i, ?_, h2, h3⟩⟩
      rcases Nat.lt_or_ge i k with e | e
      · exact e
      · have : i = k := by omega
        subst this
        exact absurd h h2
    · rename_i h
      rw [bnS_mem, bnS_mem, ih]
      constructor
      · rintro ((⟨i, h1, h2⟩ | ⟨h1, h2⟩) | ⟨h1, h2⟩)
        · exact ⟨i, by omega, h2⟩
        · exact ⟨k, by omega, h, h1, .inl h2⟩
        · exact ⟨k, by omega, h, h1, .inr h2⟩
      · rintro ⟨i, h1, h2, h3, h4⟩
        rcases Nat.lt_or_ge i k with e | e
        · exact .inl (.inl ⟨i, e, h2, h3, h4⟩)
        · have : i = k := by omega
          subst this
          rcases h4 with h4 | h4
          · exact .inl (.inr ⟨h3, h4⟩)
          · exact .inr ⟨h3, h4⟩
theorem bndL_mem {m : Pa} {b : Gr} {y : Int} : y ∈ bndL m b ↔ y ∈ bnU m b b.edges.length := (List.mergeSort_perm ..).mem_iff
theorem bndL_asc {m : Pa} {b : Gr} : (bndL m b).Pairwise (· < ·) := by
  have h1 : (bndL m b).Pairwise fun x y => decide (x ≤ y) = true := List.pairwise_mergeSort (fun a b c h1 h2 => by simp at *; omega) (fun a b => by simp; omega) _
  have h2 : (bndL m b).Nodup := (List.mergeSort_perm ..).nodup_iff.2 (bnU_nodup _)
  refine (h1.and h2).imp fun {x y} h => ?_
  have := h.1
  have := h.2
  simp at *
  omega
theorem bndL_in {m : Pa} {b : Gr} {y : Int} (h : y ∈ bndL m b) : 0 ≤ y ∧ y < m.nodes.length := by
  rw [bndL_mem, bnU_mem] at h
  obtain ⟨i, _, _, h1, h2⟩ := h
  refine ⟨h1, ?_⟩
  have key : ∀ x, 0 ≤ idx m.nodes x → idx m.nodes x < m.nodes.length := fun x h => by
    by_cases e : x ∈ m.nodes
    · exact (idx_lt e).2.1
    · have := idx_neg.2 e
      omega
  rcases h2 with rfl | rfl
  · exact key _ h1
  · exact key _ h1
end Go.Proofs.Ythapbbpdcjmmfaa

/- Contract: initial pushouts (program, 2). -/
namespace Go.Proofs.Ythapbbpdcjmmfaa
open Abs
set_option linter.unusedSimpArgs false
set_option linter.unusedVariables false

theorem asc_zero {l : List Int} {n : Nat} (ha : Asc l) (hr : ∀ x ∈ l, 0 ≤ x ∧ x < n) : ascErr l n = 0 := fe_zero fun j hj => by
  have h1 := hr _ (nth_mem hj)
  have h2 : ¬ nth l j < 0 := by omega
  have h3 : ¬ (n : Int) ≤ nth l j := by omega
  have h4 : ¬ (0 < j ∧ nth l j ≤ nth l (j - 1)) := fun h => by
    have := ha (j - 1) j (by omega) hj
    omega
  simp only [ascF, if_neg h2, if_neg h3, if_neg h4]
theorem sub_zero {g : Gr} {p : Pa} (h0 : gErr g = 0) (an : Asc p.nodes) (ae : Asc p.edges) (rn : ∀ x ∈ p.nodes, 0 ≤ x ∧ x < g.nodes.length) (re : ∀ x ∈ p.edges, 0 ≤ x ∧ x < g.edges.length)
    (de : ∀ x ∈ p.edges, (eth g.edges x.toNat).f ∈ p.nodes ∧ (eth g.edges x.toNat).g ∈ p.nodes) : subErr g p = 0 := by
  rw [subErr, if_pos h0, partErr, if_pos (asc_zero an rn), if_pos (asc_zero ae re)]
  refine fe_zero fun j hj => ?_
  rw [danF, if_pos (de _ (nth_mem hj))]
theorem mor_g {a b : Gr} {m : Pa} (h : morErr a b m = 0) : gErr a = 0 ∧ gErr b = 0 := by
  unfold morErr at h
  split at h
  · split at h
    · exact ⟨by assumption, by assumption⟩
    · exact absurd h (by assumption)
  · exact absurd h (by assumption)
theorem collect_asc {f : Nat → Option Int} (hf : ∀ k x, f k = some x → x = k) : ∀ {n : Nat}, (collect f n).Pairwise (· < ·)
  | 0 => List.Pairwise.nil
  | n + 1 => by
    have ih := collect_asc hf (n := n)
    cases h : f n with
    | none => rw [collect_none h]; exact ih
    | some x =>
      rw [collect_some h, List.pairwise_append]
      refine ⟨ih, by simp, fun a ha b hb => ?_⟩
      obtain ⟨j, hj, hj'⟩ := mem_collect.1 ha
      have h1 := hf _ _ hj'
      have h2 := hf _ _ h
      simp only [List.mem_singleton] at hb
      omega
theorem cxF_eq (m : Pa) : ∀ k x, cxF m k = some x → x = k := fun k x h => by
  unfold cxF at h
  split at h
  · cases h
  · injection h with h; exact h.symm
theorem cnF_eq (m : Pa) (B : List Int) : ∀ k x, cnF m B k = some x → x = k := fun k x h => by
  unfold cnF at h
  split at h
  · injection h with h; exact h.symm
  · cases h
theorem cx_mem {m : Pa} {b : Gr} {x : Int} : x ∈ cxL m b ↔ ∃ i : Nat, x = i ∧ i < b.edges.length ∧ (i : Int) ∉ m.edges := by
  rw [cxL, mem_collect]
  constructor
  · rintro ⟨j, hj, h⟩
    have := cxF_eq m _ _ h
    unfold cxF at h
    split at h
    · cases h
    · exact ⟨j, this, hj, by assumption⟩
  · rintro ⟨i, rfl, h1, h2⟩
    exact ⟨i, h1, by simp [cxF, h2]⟩
theorem cn_mem {m : Pa} {b : Gr} {x : Int} : x ∈ cnL m b ↔ ∃ i : Nat, x = i ∧ i < b.nodes.length ∧ (x ∉ m.nodes ∨ idx m.nodes x ∈ bndL m b) := by
  rw [cnL, mem_collect]
  constructor
  · rintro ⟨j, hj, h⟩
    have := cnF_eq m _ _ _ h
    unfold cnF at h
    split at h
    · rename_i h'
      rw [idx_neg] at h'
      exact ⟨j, this, hj, this ▸ h'⟩
    · cases h
  · rintro ⟨i, rfl, h1, h2⟩
    rw [← idx_neg] at h2
    exact ⟨i, h1, by simp only [cnF, if_pos h2]⟩
theorem end_in {m : Pa} {b : Gr} {i : Nat} (gb : GrOk b) (hi : i < b.edges.length) (hm : (i : Int) ∉ m.edges) : (eth b.edges i).f ∈ cnL m b ∧ (eth b.edges i).g ∈ cnL m b := by
  obtain ⟨_, _, g1, g2, g3, g4⟩ := gb.edges _ (eth_mem hi)
  obtain ⟨x, hx⟩ := Int.eq_ofNat_of_zero_le g1
  obtain ⟨y, hy⟩ := Int.eq_ofNat_of_zero_le g3
  have key : ∀ e : Int, (e = (eth b.edges i).f ∨ e = (eth b.edges i).g) → e ∉ m.nodes ∨ idx m.nodes e ∈ bndL m b := fun e he => by
    by_cases h : e ∈ m.nodes
    · refine .inr (bndL_mem.2 (bnU_mem.2 ⟨i, hi, hm, (idx_lt h).1, ?_⟩))
      rcases he with rfl | rfl
      · exact .inl rfl
      · exact .inr rfl
    · exact .inl h
  exact ⟨cn_mem.2 ⟨x, hx, by omega, key _ (.inl rfl)⟩, cn_mem.2 ⟨y, hy, by omega, key _ (.inr rfl)⟩⟩
theorem inB_ok {a b : Gr} {m : Pa} (h0 : gErr a = 0) (hl : m.nodes.length = a.nodes.length) : subErr a (inB m b) = 0 :=
  sub_zero h0 (asc_iff.2 bndL_asc) (fun i j _ h => absurd h (by simp [inB])) (fun x hx => by have := bndL_in hx; omega) (fun x hx => by simp [inB] at hx) (fun x hx => by simp [inB] at hx)
theorem inC_ok {b : Gr} {m : Pa} (h0 : gErr b = 0) : subErr b (inC m b) = 0 := by
  have gb := gErr_ok h0
  refine sub_zero h0 (asc_iff.2 (collect_asc (cnF_eq m _))) (asc_iff.2 (collect_asc (cxF_eq m))) (fun x hx => ?_) (fun x hx => ?_) (fun x hx => ?_)
  · obtain ⟨i, rfl, h1, _⟩ := cn_mem.1 hx
    omega
  · obtain ⟨i, rfl, h1, _⟩ := cx_mem.1 hx
    omega
  · obtain ⟨i, rfl, h1, h2⟩ := cx_mem.1 hx
    exact end_in gb h1 h2

theorem Abs.outR.outL {nm typ esz n : Nat} {cs : List Abs.C} {ob : Nm → Option Ob} {v : AV} (h : outR nm typ esz n cs ob v) : Abs.outL [nm] typ esz n cs ob v := by
  rcases h with ⟨h1, h2, h3⟩ | ⟨h1, g, h3, h4⟩
  · exact .inl ⟨h1, h2, h3⟩
  · exact .inr ⟨h1, nm, by simp, g, h3, h4⟩
theorem Abs.outL.outR {nm typ esz n : Nat} {cs : List Abs.C} {ob : Nm → Option Ob} {v : AV} (h : Abs.outL [nm] typ esz n cs ob v) : outR nm typ esz n cs ob v := by
  rcases h with ⟨h1, h2, h3⟩ | ⟨h1, nm', hm, g, h3, h4⟩
  · exact .inl ⟨h1, h2, h3⟩
  · simp at hm
    subst hm
    exact .inr ⟨h1, g, h3, h4⟩
theorem argTrees_row {nm typ esz n : Nat} {cs : List Abs.C} {ob : Nm → Option Ob} {u : V1} {c : Abs.C} (h : outR nm typ esz n cs ob (.one u)) (fr : Nat → AV) (cnt : Nat → Nat) : argTrees ⟨fr, ob, cnt⟩ [.one u, .one (.t c)] = some [(false, [.sl n cs]), (false, [c])] := by
  simp only [argTrees, argTree_one, h.treeC fr cnt]
  rfl
theorem argTrees_rowF {nm typ esz n : Nat} {cs : List Abs.C} {ob : Nm → Option Ob} {u : V1} {c : Abs.C} (h : outF nm typ esz n cs ob (.one u)) (fr : Nat → AV) (cnt : Nat → Nat) : argTrees ⟨fr, ob, cnt⟩ [.one u, .one (.t c)] = some [(false, [.sl n cs]), (false, [c])] := by
  simp only [argTrees, argTree_one, h.treeC fr cnt]
  rfl
theorem outR_inK {m : Pa} {b : Gr} {nm typ : Nat} {ob : Nm → Option Ob} : outR nm typ 1 (inK m b 0).length ((inK m b 0).map (.int .i64)) ob (.one .nil) := .inl ⟨by simp [inK], by simp [inK], rfl⟩
def bnV (m : Pa) (l : List Int) (f g : Int) (j : Nat) : List Int := if j = 0 then l else if j = 1 then bnS m l f else bnS m (bnS m l f) g


end Go.Proofs.Ythapbbpdcjmmfaa

/- The repaired part is the least. No program in sight. -/
namespace Go.Proofs.Ythapbbpdcjmmfaa
open Abs
set_option linter.unusedSimpArgs false
set_option linter.unusedVariables false

theorem mem_flatP {l k : List Int} {x : Int} (h : x ∈ flatP (pairsL l k)) : ∃ a b : Nat, a < b ∧ b < l.length ∧ nth l a = nth l b ∧ ¬((a : Int) ∈ k ∧ (b : Int) ∈ k) ∧ (x = a ∨ x = b) := by
  simp only [flatP, List.mem_flatMap] at h
  obtain ⟨q, hq, hx⟩ := h
  obtain ⟨a, b, h1, h2, h3, h4, rfl⟩ := mem_pairs.1 hq
  exact ⟨a, b, h1, h2, h3, h4, by simpa using hx⟩
theorem flat_in {l k : List Int} (h : pairsL l k = []) {k0 : List Int} {x : Int} (hx : x ∈ flatP (pairsL l k0)) : x ∈ k := by
  obtain ⟨a, b, h1, h2, h3, _, h5⟩ := mem_flatP hx
  have both : (a : Int) ∈ k ∧ (b : Int) ∈ k := Classical.byContradiction fun hn => by
    have := mem_pairs.2 ⟨a, b, h1, h2, h3, hn, rfl⟩
    rw [h] at this
    cases this
  rcases h5 with rfl | rfl
  · exact both.1
  · exact both.2
section
variable {l g : Gr} {m t : Pa}
/-- One round stays within a part that stands. -/
theorem step_in {q : Pa} (st : Stands l g t m) (h1 : ∀ x ∈ q.nodes, x ∈ t.nodes) (h2 : ∀ x ∈ q.edges, x ∈ t.edges) : (∀ x ∈ (stepP l g q m).nodes, x ∈ t.nodes) ∧ ∀ x ∈ (stepP l g q m).edges, x ∈ t.edges := by
  have he : ∀ x ∈ edgesS q m, x ∈ t.edges := fun x hx => by
    rcases List.mem_append.1 hx with hx | hx
    · exact h2 x hx
    · exact flat_in st.pe hx
  refine ⟨fun x hx => ?_, fun x hx => he x (mem_canon.1 hx).2.2⟩
  rcases List.mem_append.1 (mem_canon.1 hx).2.2 with hx | hx
  · rcases List.mem_append.1 hx with hx | hx
    · rcases List.mem_append.1 hx with hx | hx
      · exact h1 x hx
      · exact flat_in st.pn hx
    · simp only [looseL, List.mem_flatMap] at hx
      obtain ⟨k, hk, hx⟩ := hx
      obtain ⟨i, hi, hm, _, rfl⟩ := mem_dangl.1 hk
      rw [Int.toNat_natCast] at hx
      simp only [touchL, mem_collect] at hx
      obtain ⟨j, hj, hx⟩ := hx
      refine Classical.byContradiction fun hn => ?_
      have hend : nth m.nodes j = (eth g.edges i).f ∨ nth m.nodes j = (eth g.edges i).g := by
        unfold touchF at hx
        split at hx
        · exact .inl (by assumption)
        · split at hx
          · exact .inr (by assumption)
          · cases hx
      have hxj : x = (j : Int) := by
        unfold touchF at hx
        split at hx
        · injection hx with hx; exact hx.symm
        · split at hx
          · injection hx with hx; exact hx.symm
          · cases hx
      rw [hxj] at hn
      have hd : (i : Int) ∈ danglL g t m := by
        refine mem_dangl.2 ⟨i, hi, hm, ?_, rfl⟩
        rcases hend with e | e
        · exact .inl (mem_goneL.2 ⟨j, hj, hn, e⟩)
        · exact .inr (mem_goneL.2 ⟨j, hj, hn, e⟩)
      rw [st.da] at hd
      cases hd
  · obtain ⟨i, hi, h3, h4⟩ := endsL_mem.1 hx
    have := st.en _ (he _ h3)
    rw [Int.toNat_natCast] at this
    rcases h4 with rfl | rfl
    · exact this.1
    · exact this.2
theorem rep_in (st : Stands l g t m) : ∀ (k : Nat) {q : Pa}, (∀ x ∈ q.nodes, x ∈ t.nodes) → (∀ x ∈ q.edges, x ∈ t.edges) → (∀ x ∈ (repN l g m k q).nodes, x ∈ t.nodes) ∧ ∀ x ∈ (repN l g m k q).edges, x ∈ t.edges
  | 0, q, h1, h2 => ⟨h1, h2⟩
  | k + 1, q, h1, h2 => by
    obtain ⟨s1, s2⟩ := step_in st h1 h2
    unfold repN
    split
    · exact ⟨s1, s2⟩
    · exact rep_in st k s1 s2
end

section join
variable {l : Gr} {p q : Pa}
theorem join_part : PartOk l (joinP l p q) := ⟨canon_asc, canon_asc, fun x hx => ⟨(mem_canon.1 hx).1, (mem_canon.1 hx).2.1⟩, fun x hx => ⟨(mem_canon.1 hx).1, (mem_canon.1 hx).2.1⟩⟩
theorem join_left (hp : PartOk l p) : (∀ x ∈ p.nodes, x ∈ (joinP l p q).nodes) ∧ ∀ x ∈ p.edges, x ∈ (joinP l p q).edges :=
  ⟨fun x hx => mem_canon.2 ⟨(hp.rn x hx).1, (hp.rn x hx).2, List.mem_append.2 (.inl hx)⟩, fun x hx => mem_canon.2 ⟨(hp.re x hx).1, (hp.re x hx).2, List.mem_append.2 (.inl hx)⟩⟩
theorem join_right (hq : PartOk l q) : (∀ x ∈ q.nodes, x ∈ (joinP l p q).nodes) ∧ ∀ x ∈ q.edges, x ∈ (joinP l p q).edges :=
  ⟨fun x hx => mem_canon.2 ⟨(hq.rn x hx).1, (hq.rn x hx).2, List.mem_append.2 (.inr hx)⟩, fun x hx => mem_canon.2 ⟨(hq.re x hx).1, (hq.re x hx).2, List.mem_append.2 (.inr hx)⟩⟩
theorem join_sub (hg : gErr l = 0) (hp : PartOk l p) (hq : PartOk l q) (h1 : subErr l p = 0) (h2 : subErr l q = 0) : subErr l (joinP l p q) = 0 := by
  rw [subErr, if_pos hg] at h1 h2 ⊢
  refine (part_iff join_part).2 fun k hk => ?_
  rcases List.mem_append.1 (mem_canon.1 hk).2.2 with h | h
  · have := (part_iff hp).1 h1 k h
    exact ⟨(join_left hp).1 _ this.1, (join_left hp).1 _ this.2⟩
  · have := (part_iff hq).1 h2 k h
    exact ⟨(join_right hq).1 _ this.1, (join_right hq).1 _ this.2⟩
end join
theorem gone_less {im k t : List Int} (h : ∀ x ∈ k, x ∈ t) {x : Int} (hx : x ∈ goneL im t) : x ∈ goneL im k := by
  obtain ⟨i, h1, h2, h3⟩ := mem_goneL.1 hx
  exact mem_goneL.2 ⟨i, h1, fun e => h2 (h _ e), h3⟩
theorem dangl_less {g : Gr} {p t m : Pa} (h : ∀ x ∈ p.nodes, x ∈ t.nodes) : ∀ x ∈ danglL g t m, x ∈ danglL g p m := fun x hx => by
  obtain ⟨i, h1, h2, h3, h4⟩ := mem_dangl.1 hx
  exact mem_dangl.2 ⟨i, h1, h2, h3.imp (gone_less h) (gone_less h), h4⟩
theorem pairs_nodup {l k : List Int} (h : l.Nodup) : pairsL l k = [] := by
  refine List.eq_nil_iff_forall_not_mem.2 fun q hq => ?_
  obtain ⟨a, b, h1, h2, h3, _, _⟩ := mem_pairs.1 hq
  rw [List.nodup_iff_pairwise_ne, List.pairwise_iff_getElem] at h
  rw [nth_eq (by omega), nth_eq h2] at h3
  exact h a b (by omega) h2 h1 h3
end Go.Proofs.Ythapbbpdcjmmfaa

/- The law of least parts. -/
namespace Go.Proofs.Ythapbbpdcjmmfaa
open Abs
set_option linter.unusedSimpArgs false
set_option linter.unusedVariables false
attribute [local simp] rn0 rn1 rn2 rn3 rn4 rn5 rn6 rn7 evOp nests Arg.ev St.val St.set St.new sliceOf binInt2 binInt AV.cells rdAt St.live retOf resOf resAll treeOf treeCell treeCells treeTups untree frameOf TV.av TR.av ints edgs prs fillV splice intsOf trees V1.tree bx Gr.v Pa.v opRd opWr opNew opNewR opArgs argsRd argRd Arg.rd AV.refs V1.refs refsL dstL

def c_lawLeast : MFunc := ⟨153, [.tmp 6], .seq (.region [⟨some 3, .box 0 41 (.tmp 0), none⟩, ⟨some 5, .box 1 58 (.tmp 2), none⟩, ⟨some 6, .mv (.c (.one (.t (.bool false)))), none⟩]) (.seq (.seq (.region [⟨some 21, .call (.c (.one (.fn 10 []))) 64 [], none⟩, ⟨some 22, .not (.tmp 21), none⟩]) (.cond (.tmp 22) (.seq (.region [⟨some 6, .mv (.c (.one (.t (.bool false)))), none⟩]) .ret) .skip)) (.seq (.region [⟨some 23, .load true 2 (.tmp 3), none⟩, ⟨some 24, .mv (.tmp 1), none⟩, ⟨some 25, .idxArr 2 1 (.tmp 5) (.c (.one (.t (.int .i64 0)))), none⟩, ⟨some 26, .load false 1 (.tmp 25), none⟩, ⟨some 27, .call (.c (.one (.fn 18 []))) 196 [.tmp 23, .tmp 24, .tmp 26], none⟩, ⟨some 7, .alloc 197 30 [.nil, .nil, .nil, .nil, .nil, .nil, .nil, .nil], none⟩, ⟨none, .store 8 (.tmp 7) (.tmp 27), none⟩]) (.seq (.draw [[], [0], [], [2], [], [4], [], [6], [5, 7], [1, 3, 8, 8], [9], [10], [10], [], [13, 11, 9, 0, 1, 2, 3, 4, 5, 6, 7, 8, 9, 10, 11, 13], [12, 14, 0, 1, 2, 3, 4, 5, 6, 7, 8, 9, 10, 11, 12, 13, 14]] [⟨some 29, .fieldA 0 (.tmp 7), none⟩, ⟨some 30, .load true 2 (.tmp 29), none⟩, ⟨some 31, .fieldA 4 (.tmp 7), none⟩, ⟨some 32, .load true 2 (.tmp 31), none⟩, ⟨some 33, .fieldA 0 (.tmp 7), none⟩, ⟨some 34, .load true 2 (.tmp 33), none⟩, ⟨some 35, .idxArr 2 1 (.tmp 5) (.c (.one (.t (.int .i64 1)))), none⟩, ⟨some 36, .load false 1 (.tmp 35), none⟩, ⟨some 37, .call (.c (.one (.fn 30 []))) 264 [.tmp 34, .tmp 36], none⟩, ⟨some 38, .call (.c (.one (.fn 29 []))) 265 [.tmp 30, .tmp 32, .tmp 37], none⟩, ⟨some 28, .mv (.tmp 38), none⟩, ⟨some 39, .extract (.tmp 28) 0, none⟩, ⟨some 40, .extract (.tmp 28) 1, none⟩, ⟨some 8, .alloc 269 27 [.nil, .nil], none⟩, ⟨none, .store 2 (.tmp 8) (.tmp 39), none⟩, ⟨some 9, .mv (.tmp 40), none⟩]) (.seq (.region [⟨some 42, .fieldA 0 (.tmp 7), none⟩, ⟨some 43, .load true 2 (.tmp 42), none⟩, ⟨some 44, .fieldA 2 (.tmp 7), none⟩, ⟨some 45, .load true 2 (.tmp 44), none⟩, ⟨some 46, .fieldA 4 (.tmp 7), none⟩, ⟨some 47, .load true 2 (.tmp 46), none⟩, ⟨some 48, .fieldA 6 (.tmp 7), none⟩, ⟨some 49, .load true 2 (.tmp 48), none⟩, ⟨some 50, .call (.c (.one (.fn 16 []))) 328 [.tmp 43, .tmp 45, .tmp 47, .tmp 49], none⟩, ⟨some 41, .mv (.tmp 50), none⟩, ⟨some 51, .extract (.tmp 41) 0, none⟩, ⟨some 52, .extract (.tmp 41) 1, none⟩, ⟨some 10, .alloc 332 27 [.nil, .nil], none⟩, ⟨none, .store 2 (.tmp 10) (.tmp 51), none⟩, ⟨some 11, .mv (.tmp 52), none⟩]) (.seq (.region [⟨some 54, .fieldA 0 (.tmp 7), none⟩, ⟨some 55, .load true 2 (.tmp 54), none⟩, ⟨some 56, .fieldA 2 (.tmp 7), none⟩, ⟨some 57, .load true 2 (.tmp 56), none⟩, ⟨some 58, .fieldA 4 (.tmp 7), none⟩, ⟨some 59, .load true 2 (.tmp 58), none⟩, ⟨some 60, .fieldA 6 (.tmp 7), none⟩, ⟨some 61, .load true 2 (.tmp 60), none⟩, ⟨some 62, .call (.c (.one (.fn 23 []))) 392 [.tmp 55, .tmp 57, .tmp 59, .tmp 61], none⟩, ⟨some 53, .mv (.tmp 62), none⟩, ⟨some 63, .extract (.tmp 53) 0, none⟩, ⟨some 64, .extract (.tmp 53) 1, none⟩, ⟨some 12, .alloc 396 22 [.nil], none⟩, ⟨none, .store 1 (.tmp 12) (.tmp 63), none⟩, ⟨some 13, .mv (.tmp 64), none⟩]) (.seq (.region [⟨some 66, .fieldA 0 (.tmp 7), none⟩, ⟨some 67, .load true 2 (.tmp 66), none⟩, ⟨some 68, .fieldA 2 (.tmp 7), none⟩, ⟨some 69, .load true 2 (.tmp 68), none⟩, ⟨some 70, .load true 2 (.tmp 8), none⟩, ⟨some 71, .fieldA 6 (.tmp 7), none⟩, ⟨some 72, .load true 2 (.tmp 71), none⟩, ⟨some 73, .call (.c (.one (.fn 23 []))) 455 [.tmp 67, .tmp 69, .tmp 70, .tmp 72], none⟩, ⟨some 65, .mv (.tmp 73), none⟩, ⟨some 74, .extract (.tmp 65) 0, none⟩, ⟨some 75, .extract (.tmp 65) 1, none⟩, ⟨some 14, .mv (.tmp 74), none⟩, ⟨some 15, .mv (.tmp 75), none⟩]) (.seq (.seq (.region [⟨some 76, .mv (.tmp 9), none⟩, ⟨some 77, .bin .neq (.tmp 76) (.c (.one (.t (.int .i64 0)))), none⟩, ⟨some 78, .mv (.tmp 77), none⟩, ⟨some 79, .mv (.tmp 11), some (78, false)⟩, ⟨some 80, .bin .neq (.tmp 79) (.c (.one (.t (.int .i64 0)))), some (78, false)⟩, ⟨some 81, .pick (.tmp 78) (.c (.one (.t (.bool true)))) (.tmp 80), none⟩, ⟨some 82, .mv (.tmp 81), none⟩, ⟨some 83, .mv (.tmp 13), some (82, false)⟩, ⟨some 84, .bin .neq (.tmp 83) (.c (.one (.t (.int .i64 0)))), some (82, false)⟩, ⟨some 85, .pick (.tmp 82) (.c (.one (.t (.bool true)))) (.tmp 84), none⟩, ⟨some 86, .mv (.tmp 85), none⟩, ⟨some 87, .mv (.tmp 15), some (86, false)⟩, ⟨some 88, .bin .neq (.tmp 87) (.c (.one (.t (.int .i64 0)))), some (86, false)⟩, ⟨some 89, .pick (.tmp 86) (.c (.one (.t (.bool true)))) (.tmp 88), none⟩, ⟨some 90, .mv (.tmp 89), none⟩, ⟨some 91, .mv (.tmp 14), some (90, false)⟩, ⟨some 92, .mkfn 32 [.tmp 12], some (90, false)⟩, ⟨some 93, .call (.c (.one (.fn 31 []))) 529 [.tmp 91, .tmp 92], some (90, false)⟩, ⟨some 94, .pick (.tmp 90) (.c (.one (.t (.bool true)))) (.tmp 93), none⟩]) (.cond (.tmp 94) (.seq (.region [⟨some 6, .mv (.c (.one (.t (.bool false)))), none⟩]) .ret) .skip)) (.seq (.seq (.region [⟨some 96, .fieldA 0 (.tmp 7), none⟩, ⟨some 97, .load true 2 (.tmp 96), none⟩, ⟨some 98, .fieldA 2 (.tmp 7), none⟩, ⟨some 99, .load true 2 (.tmp 98), none⟩, ⟨some 100, .load true 2 (.tmp 8), none⟩, ⟨some 101, .fieldA 6 (.tmp 7), none⟩, ⟨some 102, .load true 2 (.tmp 101), none⟩, ⟨some 103, .call (.c (.one (.fn 12 []))) 647 [.tmp 97, .tmp 99, .tmp 100, .tmp 102], none⟩, ⟨some 95, .mv (.tmp 103), none⟩, ⟨some 104, .extract (.tmp 95) 0, none⟩, ⟨some 105, .extract (.tmp 95) 1, none⟩, ⟨some 16, .alloc 651 27 [.nil, .nil], none⟩, ⟨none, .store 2 (.tmp 16) (.tmp 104), none⟩, ⟨some 17, .mv (.tmp 105), none⟩]) (.seq (.region [⟨some 106, .mv (.tmp 17), none⟩, ⟨some 107, .bin .eql (.tmp 106) (.c (.one (.t (.int .i64 0)))), none⟩, ⟨some 108, .mv (.tmp 107), none⟩, ⟨some 109, .load true 2 (.tmp 10), some (108, true)⟩, ⟨some 110, .load true 2 (.tmp 8), some (108, true)⟩, ⟨some 111, .call (.c (.one (.fn 34 []))) 709 [.tmp 109, .tmp 110], some (108, true)⟩, ⟨some 112, .not (.tmp 111), some (108, true)⟩, ⟨some 113, .pick (.tmp 108) (.tmp 112) (.c (.one (.t (.bool false)))), none⟩]) (.cond (.tmp 113) (.seq (.region [⟨some 6, .mv (.c (.one (.t (.bool false)))), none⟩]) .ret) .skip))) (.seq (.region [⟨some 115, .fieldA 0 (.tmp 7), none⟩, ⟨some 116, .load true 2 (.tmp 115), none⟩, ⟨some 117, .fieldA 2 (.tmp 7), none⟩, ⟨some 118, .load true 2 (.tmp 117), none⟩, ⟨some 119, .fieldA 4 (.tmp 7), none⟩, ⟨some 120, .load true 2 (.tmp 119), none⟩, ⟨some 121, .fieldA 6 (.tmp 7), none⟩, ⟨some 122, .load true 2 (.tmp 121), none⟩, ⟨some 123, .call (.c (.one (.fn 25 []))) 840 [.tmp 116, .tmp 118, .tmp 120, .tmp 122], none⟩, ⟨some 114, .mv (.tmp 123), none⟩, ⟨some 124, .extract (.tmp 114) 0, none⟩, ⟨some 125, .extract (.tmp 114) 1, none⟩, ⟨some 126, .extract (.tmp 114) 2, none⟩, ⟨some 18, .mv (.tmp 124), none⟩, ⟨some 19, .mv (.tmp 125), none⟩, ⟨some 20, .mv (.tmp 126), none⟩]) (.seq (.region [⟨some 127, .mv (.tmp 20), none⟩, ⟨some 128, .bin .eql (.tmp 127) (.c (.one (.t (.int .i64 0)))), none⟩, ⟨some 129, .mv (.tmp 128), none⟩, ⟨some 130, .fieldA 6 (.tmp 7), some (129, true)⟩, ⟨some 131, .fieldA 0 (.tmp 130), some (129, true)⟩, ⟨some 132, .load false 1 (.tmp 131), some (129, true)⟩, ⟨some 133, .call (.c (.one (.fn 35 []))) 902 [.tmp 132], some (129, true)⟩, ⟨some 134, .not (.tmp 133), some (129, true)⟩, ⟨some 135, .mv (.tmp 134), some (129, true)⟩, ⟨some 136, .mv (.tmp 18), some (135, false)⟩, ⟨some 137, .len (.tmp 136), some (135, false)⟩, ⟨some 138, .bin .eql (.tmp 137) (.c (.one (.t (.int .i64 0)))), some (135, false)⟩, ⟨some 139, .pick (.tmp 135) (.c (.one (.t (.bool true)))) (.tmp 138), some (129, true)⟩, ⟨some 140, .pick (.tmp 129) (.tmp 139) (.c (.one (.t (.bool false)))), none⟩, ⟨some 141, .mv (.tmp 140), none⟩, ⟨some 142, .fieldA 6 (.tmp 7), some (141, true)⟩, ⟨some 143, .fieldA 1 (.tmp 142), some (141, true)⟩, ⟨some 144, .load false 1 (.tmp 143), some (141, true)⟩, ⟨some 145, .call (.c (.one (.fn 35 []))) 914 [.tmp 144], some (141, true)⟩, ⟨some 146, .not (.tmp 145), some (141, true)⟩, ⟨some 147, .mv (.tmp 146), some (141, true)⟩, ⟨some 148, .mv (.tmp 19), some (147, false)⟩, ⟨some 149, .len (.tmp 148), some (147, false)⟩, ⟨some 150, .bin .eql (.tmp 149) (.c (.one (.t (.int .i64 0)))), some (147, false)⟩, ⟨some 151, .pick (.tmp 147) (.c (.one (.t (.bool true)))) (.tmp 150), some (141, true)⟩, ⟨some 152, .pick (.tmp 141) (.tmp 151) (.c (.one (.t (.bool false)))), none⟩, ⟨some 6, .mv (.tmp 152), none⟩]) .ret))))))))))⟩
theorem k_lawLeast : cFn Try.prog Try.f8 = some c_lawLeast := by kernel_rfl
set_option maxHeartbeats 8000000 in
theorem lawLeast_ok (d : Dr) (c : List Nat) (s : Nat × Nat) (hd : BoundD d) (hc : c.length ≤ 1048576) (hcs : ∀ x ∈ c, x < 256) : CallOK Try.prog 8 [d.v, byV c, u642V s] (.sv (false, [.bool true])) := by
  obtain ⟨s0, s1⟩ := s
  refine callOK_W (callS_W (by kernel_rfl) Try.func8 k_lawLeast (callable_of Try.func8 (by kernel_rfl)) (by simp [c_lawLeast]) ?_)
  have go := mdG_ok (d := d)
  have hp := mask_tiny (s := s0) go
  have hq := mask_tiny (s := s1) go
  have hs := mask_sub (s := s0) go
  have hs1 := mask_sub (s := s1) go
  have pp := mask_part (g := mdG d) (s := s0)
  have pq := mask_part (g := mdG d) (s := s1)
  have ht := dTiny (d := d) (c := c) hp
  have mo := dMor (d := d) (c := c)
  have f1 := mdG_few (d := d)
  have f2 := dFew (d := d) (c := c)
  have r7 := made7_ok (mdG d) s1 go
  have r12 := made12_ok d c s0 hd hc hcs
  simp [c_lawLeast, byV, bys, Dr.v, u642V]
  refine callS_tree awake_ok ?_ ?_ ?_
  · rfl
  · rfl
  simp
  refine callS_tree r12 ?_ ?_ ?_
  · rfl
  · rfl
  clear r12
  generalize mdG d = l at *
  generalize dG d c = g at *
  generalize dM d c = m at *
  generalize maskP l s0 = kp at *
  generalize maskP l s1 = q at *
  have h0 := mor_zero mo
  have hg := gErr_of go
  have e0 : caseErr l g kp m = 0 := by rw [caseErr, if_pos h0]; exact hs
  have b1 := PartOk.len pp
  have b2 := PartOk.len pq
  have hq0 : partErr l q = 0 := by rw [subErr, if_pos hg] at hs1; exact hs1
  have rj := join_ok l kp q ht.tl hp hq hs hq0 (by omega) (by omega) (by omega) (by omega)
    (fun x hx => (List.mem_append.1 hx).elim (pp.rn x) (pq.rn x)) (fun x hx => (List.mem_append.1 hx).elim (pp.re x) (pq.re x))
  have pt := join_part (l := l) (p := kp) (q := q)
  have ts := join_sub hg pp pq hs hs1
  have tl := join_left (q := q) pp
  generalize joinP l kp q = t at *
  have b3 := PartOk.len pt
  have tt : tinyP t := ⟨by simp only [tiny]; omega, by simp only [tiny]; omega⟩
  have ht2 : TinyCase l g t m := ⟨ht.tl, ht.tg, tt, ht.tm⟩
  have e1 : caseErr l g t m = 0 := by rw [caseErr, if_pos h0]; exact ts
  have x1 : (repR l g kp m).2 = 0 := by rw [repR, if_pos e0]
  have x2 : danglR l g kp m = (danglL g kp m, 0) := if_pos e0
  have x3 : danglR l g t m = (danglL g t m, 0) := if_pos e1
  have x4 : identR l g kp m = (pairsL m.nodes kp.nodes, pairsL m.edges kp.edges, 0) := if_pos e0
  have tr := repR_tiny ht
  have hin : (ofR l g t m).2 = 0 → (∀ x ∈ (repR l g kp m).1.nodes, x ∈ t.nodes) ∧ ∀ x ∈ (repR l g kp m).1.edges, x ∈ t.edges := fun h => by
    rw [repR, if_pos e0]
    exact rep_in ((of_stands h0 pt).1 h) _ tl.1 tl.2
  have less := dangl_less (g := g) (m := m) (p := kp) (t := t) tl.1
  have rr := repair_ok l g kp m ht
  have n1 : (danglL g kp m).length ≤ g.edges.length := dangl_few
  have n2 : (danglL g t m).length ≤ g.edges.length := dangl_few
  generalize (repR l g kp m).1 = R at *
  simp [dw0, dw1, dw2, dw3, gluV]
  refine dCall_ok r7 ?_ ?_ ?_
  · rfl
  · rfl
  simp [dw0, dw1, dw2, dw3]
  refine dCall_ok rj ?_ ?_ ?_
  · rfl
  · rfl
  simp [dw0, dw1, dw2, dw3]
  refine ⟨by first | kernel_rfl | rfl, ?_⟩
  refine callS_tree rr ?_ ?_ ?_
  · rfl
  · rfl
  simp [x1]
  refine callS_tree (dangX_ok l g kp m ht) ?_ ?_ ?_
  · rfl
  · rfl
  simp [x2]
  refine callS_tree (dangX_ok l g t m ht2) ?_ ?_ ?_
  · rfl
  · rfl
  simp [x3]
  have hany : ((danglL g t m).any fun x => !decide (x ∈ danglL g kp m)) = false := by
    rw [List.any_eq_false]
    intro x hx
    simp [less x hx]
  refine containsLeast (danglL g kp m) (danglL g t m) (by simp only [small]; omega) (by simp only [small]; omega) (396, 0) (typ := 22) (by simp) ?_
  rw [hany]
  simp
  refine callS_tree (of_ok l g t m ht2) ?_ ?_ ?_
  · rfl
  · rfl
  by_cases h : (ofR l g t m).2 = 0
  case pos =>
    simp [h]
    refine callS_tree (in_ok R t tr tt (hin h).1 (hin h).2) ?_ ?_ ?_
    · rfl
    · rfl
    simp
    refine callS_tree (identX_ok l g kp m ht) ?_ ?_ ?_
    · rfl
    · rfl
    simp [identT, x4]
    refine callS_tree (distinct_ok m.nodes ht.tm.1) ?_ ?_ ?_
    · rfl
    · rfl
    rcases Classical.em m.nodes.Nodup with nd | nd
    all_goals
      first
      | (have z := pairs_nodup (k := kp.nodes) nd
         simp [nd, z])
      | simp [nd]
      refine callS_tree (distinct_ok m.edges ht.tm.2) ?_ ?_ ?_
      · rfl
      · rfl
      rcases Classical.em m.edges.Nodup with ne | ne
      all_goals
        first
        | (have z2 := pairs_nodup (k := kp.edges) ne
           simp [ne, z2])
        | simp [ne]
  case neg =>
    simp [h]
    refine callS_tree (identX_ok l g kp m ht) ?_ ?_ ?_
    · rfl
    · rfl
    simp [identT, x4]
    refine callS_tree (distinct_ok m.nodes ht.tm.1) ?_ ?_ ?_
    · rfl
    · rfl
    rcases Classical.em m.nodes.Nodup with nd | nd
    all_goals
      first
      | (have z := pairs_nodup (k := kp.nodes) nd
         simp [nd, z])
      | simp [nd]
      refine callS_tree (distinct_ok m.edges ht.tm.2) ?_ ?_ ?_
      · rfl
      · rfl
      rcases Classical.em m.edges.Nodup with ne | ne
      all_goals
        first
        | (have z2 := pairs_nodup (k := kp.edges) ne
           simp [ne, z2])
        | simp [ne]
end Go.Proofs.Ythapbbpdcjmmfaa

/- Descriptions, lists of bytes and words as arguments, opened. -/
namespace Go.Proofs.Ythapbbpdcjmmfaa
open Abs
open Go.ChangeShapes Go.WideShapes Go.RowKit
set_option linter.unusedSimpArgs false
set_option linter.unusedVariables false

theorem oB : OpensB Try.prog 38 := fun H enc w base spare held fuel cs x h => open_by_list Try.underlying38 Try.underlying5 (by kernel_rfl) h
theorem oT : OpensT Try.prog 39 := fun H enc w base spare held fuel cs x h => open_t3_list Try.underlying39 Try.underlying113 Try.underlying5 (by kernel_rfl) (by kernel_rfl) h

theorem oD : OpensD Try.prog 41 := opensD Try.underlying41 ⟨rfl, rfl, rfl, rfl⟩ (by kernel_rfl) (by kernel_rfl) (by kernel_rfl) oB oT

theorem open_draft {H : Type} {enc : TypeId × Value → H} {w : World} {base : Nat} {spare : Nat → Bool} {held : Bool} {v : Value} {d : DataW H} {ps : List MemPlace} (h : DataW.Trod enc Try.prog w base spare held 41 v d ps)
    (hw : (d.weights Try.prog 41).all (· ≤ reachBytes) = true) : ∃ x : Dr, TVR w (fun _ => False) x.v v ∧ BoundD x := oD _ _ _ _ _ _ _ _ _ h

theorem open_bytes {H : Type} {enc : TypeId × Value → H} {w : World} {base : Nat} {spare : Nat → Bool} {held : Bool} {v : Value} {d : DataW H} {ps : List MemPlace} (h : DataW.Trod enc Try.prog w base spare held 38 v d ps)
    (hw : (d.weights Try.prog 38).all (· ≤ reachBytes) = true) (hs : ∃ a len cap, v = Value.slice a len cap) : ∃ x, TVR w (fun _ => False) (byV x) v ∧ BoundB x ∧ (x = [] ∨ ∃ es sp, d = .slice es sp ∧ es.length = x.length) := by
  obtain ⟨a, len, cap, rfl⟩ := hs
  exact opens_bytes oB h fun _ => rfl

theorem open_u64 {H : Type} {enc : TypeId × Value → H} {w : World} {base : Nat} {spare : Nat → Bool} {held : Bool} {v : Value} {d : DataW H} {ps : List MemPlace} (h : DataW.Trod enc Try.prog w base spare held 42 v d ps)
    (hw : (d.weights Try.prog 42).all (· ≤ reachBytes) = true) (hs : ∃ n, v = Value.int .u64 n) : ∃ x, TVR w (fun _ => False) (u64V x) v ∧ BoundU x := by
  obtain ⟨n, rfl⟩ := hs
  exact opens_u64 Try.underlying42 h fun _ => rfl

theorem open_u64s {H : Type} {enc : TypeId × Value → H} {w : World} {base : Nat} {spare : Nat → Bool} {held : Bool} {v : Value} {d : DataW H} {ps : List MemPlace} (h : DataW.Trod enc Try.prog w base spare held 58 v d ps)
    (hw : (d.weights Try.prog 58).all (· ≤ reachBytes) = true) : ∃ x, TVR w (fun _ => False) (u642V x) v ∧ BoundUU x := opens_u64s Try.underlying58 Try.underlying42 (by kernel_rfl) (by kernel_rfl) h

end Go.Proofs.Ythapbbpdcjmmfaa

/- What the bound of the second form gives. -/
namespace Go.Proofs.Ythapbbpdcjmmfaa
theorem bulk_one {H : Type} (d : DataW H) : 1 ≤ Rows.uptoBulk d := by
  cases d with
  | lit l => cases l <;> simp [Rows.uptoBulk]
  | nil => simp [Rows.uptoBulk]
  | ptr d => simp [Rows.uptoBulk]
  | slice elems spare => simp [Rows.uptoBulk]
  | agg parts => simp [Rows.uptoBulk]
  | iface t d => simp [Rows.uptoBulk]
  | map entries => simp [Rows.uptoBulk]
  | held h => simp [Rows.uptoBulk]
theorem bulk_part {H : Type} {d : DataW H} {l : List (DataW H)} (h : d ∈ l) : Rows.uptoBulk d ≤ Rows.uptoBulkAll l := by
  induction l with
  | nil => cases h
  | cons x r ih =>
    simp only [Rows.uptoBulkAll]
    cases List.mem_cons.1 h with
    | inl e => subst e; omega
    | inr e => have := ih e; omega
theorem bulk_len {H : Type} (l : List (DataW H)) : l.length ≤ Rows.uptoBulkAll l := by
  induction l with
  | nil => simp [Rows.uptoBulkAll]
  | cons x r ih => have := bulk_one x; simp only [Rows.uptoBulkAll, List.length_cons]; omega
theorem bulk_bound {H : Type} {l : List (DataW H)} (h : Rows.uptoSmall H l = true) : Rows.uptoBulkAll l ≤ 1048576 := of_decide_eq_true h
/-- A list's length under the bound. -/
theorem bulk_list {H : Type} {l : List (DataW H)} {d : DataW H} {x : List Nat} (h : Rows.uptoSmall H l = true) (hm : d ∈ l) (hd : x = [] ∨ ∃ es sp, d = .slice es sp ∧ es.length = x.length) : x.length ≤ 1048576 := by
  rcases hd with rfl | ⟨es, sp, rfl, he⟩
  · simp
  · have h1 := bulk_bound h
    have h2 := bulk_part hm
    have h3 := bulk_len es
    simp only [Rows.uptoBulk] at h2
    omega
end Go.Proofs.Ythapbbpdcjmmfaa

/- The row of ComplementLeast, closed, if the law answers true for every input. -/
namespace Go.Proofs.Ythapbbpdcjmmfaa
open Abs
open Go.ChangeShapes Go.WideShapes Go.ChangeAt Go.RowKit
set_option linter.unusedSimpArgs false
set_option linter.unusedVariables false

namespace complementLeast
/-- What the law is to answer. -/
def Law : Prop := ∀ (x0 : Dr) (x1 : List Nat) (x2 : Nat × Nat), BoundD x0 → BoundB x1 → x1.length ≤ 1048576 → BoundUU x2 → CallOK Try.prog 8 [x0.v, byV x1, u642V x2] (.sv (false, [.bool true]))

theorem calls (h : Law) {H : Type} {enc : TypeId × Value → H} {w : World} {base : Nat} {spare : Nat → Bool} {held : Bool} {v0 v1 v2 : Value} {d0 d1 d2 : DataW H} {p0 p1 p2 : List MemPlace}
    (h0 : DataW.Trod enc Try.prog w base spare held 41 v0 d0 p0) (hw0 : (d0.weights Try.prog 41).all (· ≤ reachBytes) = true)
    (h1 : DataW.Trod enc Try.prog w base spare held 38 v1 d1 p1) (hw1 : (d1.weights Try.prog 38).all (· ≤ reachBytes) = true) (hs1 : ∃ a len cap, v1 = Value.slice a len cap)
    (h2 : DataW.Trod enc Try.prog w base spare held 58 v2 d2 p2) (hw2 : (d2.weights Try.prog 58).all (· ≤ reachBytes) = true)
    (hu : Rows.uptoSmall H [d0, d1, d2] = true)
    : Calls Try.prog 8 #[v0, v1, v2] w fun e w' => e = .returned (.bool true) ∧ Below w.heap.size w w' := by
  obtain ⟨x0, hx0, hb0⟩ := open_draft h0 hw0
  obtain ⟨x1, hx1, hb1, hc1⟩ := open_bytes h1 hw1 hs1
  obtain ⟨x2, hx2, hb2⟩ := open_u64s h2 hw2
  refine ((h x0 x1 x2 hb0 hb1 (bulk_list hu (by simp) hc1) hb2).2 w (fun _ => False) #[v0, v1, v2] (fun b hb => hb.elim) rfl (fun j s u hs hu => ?_)).mono ?_
  · match j, hs, hu with
    | 0, hs, hu =>
      simp at hs hu
      subst hs hu
      exact hx0
    | 1, hs, hu =>
      simp at hs hu
      subst hs hu
      exact hx1
    | 2, hs, hu =>
      simp at hs hu
      subst hs hu
      exact hx2
    | j + 3, hs, _ => simp at hs
  · rintro e w' ⟨u, rfl, hu, hbel⟩
    obtain ⟨c, hc, hc2⟩ := hu
    simp at hc
    subst hc
    cases hc2
    exact ⟨rfl, hbel⟩

set_option maxRecDepth 100000 in
theorem lifted (law : Law) (os : Os) (started : os.Started) (H : Type) (enc : TypeId × Value → H) (F : Stop.Interp) :
    ReturnsInHanded {} Try.checked os 8 .any ((Rows.OpenSpec.upto Rows.complementLeastSpec).pre6 enc Try.prog Try.f8 Rows.complementLeastUptoRow.domain false) (((Rows.OpenSpec.upto Rows.complementLeastSpec).at F).post enc Try.prog Try.f8 false true false false) := by
  refine returnsInHanded_of_cond_sized (C := Try.checked) (s := Rows.OpenSpec.upto Rows.complementLeastSpec) (k := Rows.uptoSmall) rfl own started (by kernel_rfl) Try.func8
    (OpenSpec.witness (enc := enc) (C := Try.checked) (s := Rows.OpenSpec.upto Rows.complementLeastSpec) (k := Rows.uptoSmall) rfl false ⟨#[], #[.agg #[.slice none 0 0, .slice none 0 0], .slice none 0 0, .agg #[.int .u64 0, .int .u64 0]], []⟩ 8 (by kernel_rfl) (by kernel_rfl) (by kernel_rfl) (x := ([.agg [.nil, .nil], .nil, .agg [.lit (.int .u64 0), .lit (.int .u64 0)]], [], [])) (by kernel_rfl) rfl (by kernel_rfl)) ?_
  intro W base args ds gs before hval0 hW hcnd hk hsz0 _
  have hsz : (DataW.weightsEach Try.prog (Try.f8.params.toList ++ Rows.complementLeastSpec.plain.varTypes Try.prog) (ds ++ gs)).all (· ≤ reachBytes) = true := hsz0
  have hW' := hW
  obtain ⟨p, q, hA0, hV, rfl, hfz, hnd⟩ := hW
  have hA : DataW.TrodAll enc Try.prog W 0 (fun _ => true) true Try.f8.params.toList args.toList ds p := hA0
  rw [Try.params8] at hA hsz
  obtain ⟨v0, vs0, d0, ds0, p0, q0, hargs0, rfl, rfl, h0, r0⟩ := trodAll_cons hA
  obtain ⟨v1, vs1, d1, ds1, p1, q1, hargs1, rfl, rfl, h1, r1⟩ := trodAll_cons r0
  obtain ⟨v2, vs2, d2, ds2, p2, q2, hargs2, rfl, rfl, h2, r2⟩ := trodAll_cons r1
  obtain ⟨rfl, rfl, rfl⟩ := trodAll_nil r2
  obtain rfl : args = #[v0, v1, v2] := by cases args; simp_all
  obtain ⟨rfl, rfl⟩ := trodVars_none hV
  have hw0 : (d0.weights Try.prog 41).all (· ≤ reachBytes) = true := by
    refine List.all_eq_true.2 fun n hn => List.all_eq_true.1 hsz n ?_
    exact DataW.weights_mem_each (j := 0) (t := 41) (d := d0) rfl rfl n hn
  have lt0 : ∀ x ∈ p0, x.block < W.heap.size := by obtain ⟨m, hm⟩ := h0; exact DataW.trod_lt m _ _ _ hm
  have hw1 : (d1.weights Try.prog 38).all (· ≤ reachBytes) = true := by
    refine List.all_eq_true.2 fun n hn => List.all_eq_true.1 hsz n ?_
    exact DataW.weights_mem_each (j := 1) (t := 38) (d := d1) rfl rfl n hn
  have lt1 : ∀ x ∈ p1, x.block < W.heap.size := by obtain ⟨m, hm⟩ := h1; exact DataW.trod_lt m _ _ _ hm
  have hw2 : (d2.weights Try.prog 58).all (· ≤ reachBytes) = true := by
    refine List.all_eq_true.2 fun n hn => List.all_eq_true.1 hsz n ?_
    exact DataW.weights_mem_each (j := 2) (t := 58) (d := d2) rfl rfl n hn
  have lt2 : ∀ x ∈ p2, x.block < W.heap.size := by obtain ⟨m, hm⟩ := h2; exact DataW.trod_lt m _ _ _ hm
  have hs1 := okWide_slice Try.underlying38 (hval0 1 _ _ (by rw [← Array.getElem?_toList, Try.params8]; rfl) rfl)
  clear hA0 hval0 hsz0 hsz
  show Calls Try.prog 8 #[v0, v1, v2] W fun e W' => ∃ v, e = .returned v ∧ Rows.complementLeastSpec.post enc Try.prog Try.f8 false true false false W #[v0, v1, v2] v W'
  refine (calls law h0 hw0 h1 hw1 hs1 h2 hw2 (by simpa using hk)).mono fun e W' ⟨he, bel⟩ => ?_
  subst he
  exact ⟨_, rfl, _, _, _, [], _, [], hW', trodAll_mk1 (shut_bool Try.underlying4 _), (trodAll_cons_mk (Below.trod laidOut (by kernel_rfl) (of_decide_eq_true (by kernel_rfl)) h0 bel lt0) (trodAll_cons_mk (Below.trod laidOut (by kernel_rfl) (of_decide_eq_true (by kernel_rfl)) h1 bel lt1) (trodAll_cons_mk (Below.trod laidOut (by kernel_rfl) (of_decide_eq_true (by kernel_rfl)) h2 bel lt2) trodAll_mk0))), rfl, bel.frame _, fun h => by cases h⟩

theorem over (law : Law) : Rows.complementLeastUptoRow.holds Try.pinned (Rows.OpenSpec.upto Rows.complementLeastSpec) :=
  OpenClaim.holds_of_cond 8 Try.f8 rfl rfl rfl rfl rfl rfl rfl ⟨rfl, rfl, rfl, rfl, rfl⟩ rfl rfl rfl rfl rfl (by kernel_rfl) Try.func8 (by kernel_rfl)
    (of_decide_eq_true (by kernel_rfl)) (by unfold Func.isWrapper; first | (rw [if_pos (by decide +kernel)]; kernel_rfl) | (rw [if_neg (by decide +kernel)]; exact ⟨rfl, rfl⟩))
    (fun os started H enc _ F => lifted law os started H enc F)
end complementLeast
end Go.Proofs.Ythapbbpdcjmmfaa

/- ComplementLeast answers true where the arguments are of bulk at most 1048576. -/
namespace Go.Proofs.Ythapbbpdcjmmfaa
open Abs
theorem complementLeast_upto : Rows.ComplementLeastUptoSaid := complementLeast.over fun d c s hd hc hn _ => lawLeast_ok d c s hd hn hc.1
end Go.Proofs.Ythapbbpdcjmmfaa
