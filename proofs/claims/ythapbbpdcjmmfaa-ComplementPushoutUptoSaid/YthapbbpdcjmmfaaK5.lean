/-
  Joined texts: the theorem of this claim and its last steps. No condition beyond those that each statement names.
-/
import Derived.Test.YthapbbpdcjmmfaaK4
import Derived.Test.YthapbbpdcjmmfaaProg
import Derived.KernelRfl
import Derived.Test.YthapbbpdcjmmfaaRows
import Derived.JoinedCond
import Derived.Deep.CondSized
/- Plain laws on pushouts and pullbacks of functions between the numbers below bounds. -/
namespace Go.Proofs.Ythapbbpdcjmmfaa.Po
set_option linter.unusedVariables false

/-- f takes the numbers below n to numbers below m. -/
def Maps (n m : Nat) (f : Nat → Nat) : Prop := ∀ i, i < n → f i < m

structure PO (nA nB nC nD : Nat) (f g h k : Nat → Nat) : Prop where
  comm : ∀ a, a < nA → h (f a) = k (g a)
  cover : ∀ d, d < nD → (∃ b, b < nB ∧ h b = d) ∨ (∃ c, c < nC ∧ k c = d)
  univ : ∀ φ ψ : Nat → Nat, (∀ a, a < nA → φ (f a) = ψ (g a)) → ∃ u : Nat → Nat, (∀ b, b < nB → u (h b) = φ b) ∧ (∀ c, c < nC → u (k c) = ψ c)

structure PB (nA nB nC : Nat) (f g h k : Nat → Nat) : Prop where
  comm : ∀ a, a < nA → h (f a) = k (g a)
  ex : ∀ b c, b < nB → c < nC → h b = k c → ∃ a, a < nA ∧ f a = b ∧ g a = c
  uniq : ∀ a a', a < nA → a' < nA → f a = f a' → g a = g a' → a = a'

theorem PO.symm {nA nB nC nD : Nat} {f g h k : Nat → Nat} (p : PO nA nB nC nD f g h k) : PO nA nC nB nD g f k h where
  comm := fun a ha => (p.comm a ha).symm
  cover := fun d hd => (p.cover d hd).symm
  univ := fun φ ψ hc => by
    obtain ⟨u, h1, h2⟩ := p.univ ψ φ (fun a ha => (hc a ha).symm)
    exact ⟨u, h2, h1⟩

theorem PB.symm {nA nB nC : Nat} {f g h k : Nat → Nat} (p : PB nA nB nC f g h k) : PB nA nC nB g f k h where
  comm := fun a ha => (p.comm a ha).symm
  ex := fun b c hb hc e => by
    obtain ⟨a, h1, h2, h3⟩ := p.ex c b hc hb e.symm
    exact ⟨a, h1, h3, h2⟩
  uniq := fun a a' h1 h2 e1 e2 => p.uniq a a' h1 h2 e2 e1

/-- Only the values below the bounds count. -/
theorem PO.congr {nA nB nC nD : Nat} {f g h k f' g' h' k' : Nat → Nat} (p : PO nA nB nC nD f g h k) (mf : Maps nA nB f) (mg : Maps nA nC g)
    (ef : ∀ i, i < nA → f' i = f i) (eg : ∀ i, i < nA → g' i = g i) (eh : ∀ i, i < nB → h' i = h i) (ek : ∀ i, i < nC → k' i = k i) : PO nA nB nC nD f' g' h' k' where
  comm := fun a ha => by rw [ef a ha, eg a ha, eh _ (mf a ha), ek _ (mg a ha)]; exact p.comm a ha
  cover := fun d hd => by
    rcases p.cover d hd with ⟨b, hb, e⟩ | ⟨c, hc, e⟩
    · exact .inl ⟨b, hb, by rw [eh b hb]; exact e⟩
    · exact .inr ⟨c, hc, by rw [ek c hc]; exact e⟩
  univ := fun φ ψ hc => by
    obtain ⟨u, h1, h2⟩ := p.univ φ ψ (fun a ha => by rw [← ef a ha, ← eg a ha]; exact hc a ha)
    exact ⟨u, fun b hb => by rw [eh b hb]; exact h1 b hb, fun c hc => by rw [ek c hc]; exact h2 c hc⟩

theorem PB.congr {nA nB nC : Nat} {f g h k f' g' h' k' : Nat → Nat} (p : PB nA nB nC f g h k) (mf : Maps nA nB f) (mg : Maps nA nC g)
    (ef : ∀ i, i < nA → f' i = f i) (eg : ∀ i, i < nA → g' i = g i) (eh : ∀ i, i < nB → h' i = h i) (ek : ∀ i, i < nC → k' i = k i) : PB nA nB nC f' g' h' k' where
  comm := fun a ha => by rw [ef a ha, eg a ha, eh _ (mf a ha), ek _ (mg a ha)]; exact p.comm a ha
  ex := fun b c hb hc e => by
    rw [eh b hb, ek c hc] at e
    obtain ⟨a, ha, h1, h2⟩ := p.ex b c hb hc e
    exact ⟨a, ha, by rw [ef a ha]; exact h1, by rw [eg a ha]; exact h2⟩
  uniq := fun a a' h1 h2 e1 e2 => by
    rw [ef a h1, ef a' h2] at e1
    rw [eg a h1, eg a' h2] at e2
    exact p.uniq a a' h1 h2 e1 e2

/-- The outer square of two pushouts is a pushout. -/
theorem po_paste {nA nB nC nD nE nF : Nat} {f g h k f2 h2 k2 : Nat → Nat} (p : PO nA nB nC nD f g h k) (q : PO nB nE nD nF f2 h h2 k2)
    (mf : Maps nA nB f) (mg : Maps nA nC g) (mh : Maps nB nD h) (mk : Maps nC nD k) (mf2 : Maps nB nE f2) :
    PO nA nE nC nF (fun a => f2 (f a)) g h2 (fun c => k2 (k c)) where
  comm := fun a ha => by
    show h2 (f2 (f a)) = k2 (k (g a))
    rw [q.comm (f a) (mf a ha), p.comm a ha]
  cover := fun d hd => by
    rcases q.cover d hd with ⟨b, hb, e⟩ | ⟨c, hc, e⟩
    · exact .inl ⟨b, hb, e⟩
    · rcases p.cover c hc with ⟨b, hb, e'⟩ | ⟨c', hc', e'⟩
      · refine .inl ⟨f2 b, ?_, ?_⟩
        · exact mf2 b hb
        · rw [q.comm b hb, e', e]
      · exact .inr ⟨c', hc', by show k2 (k c') = d; rw [e', e]⟩
  univ := fun φ ψ hc => by
    obtain ⟨u, h1, h2⟩ := p.univ (fun b => φ (f2 b)) ψ hc
    obtain ⟨v, h3, h4⟩ := q.univ φ u (fun b hb => (h1 b hb).symm)
    exact ⟨v, h3, fun c hc => by rw [h4 (k c) (mk c hc)]; exact h2 c hc⟩

/-- If the outer square and the first one are pushouts, so is the second one. -/
theorem po_second {nA nB nC nD nE nF : Nat} {f g h k f2 h2 k2 : Nat → Nat} (p : PO nA nB nC nD f g h k)
    (o : PO nA nE nC nF (fun a => f2 (f a)) g h2 (fun c => k2 (k c)))
    (cm : ∀ b, b < nB → h2 (f2 b) = k2 (h b)) (mf : Maps nA nB f) (mg : Maps nA nC g) (mk : Maps nC nD k) (mf2 : Maps nB nE f2) : PO nB nE nD nF f2 h h2 k2 where
  comm := cm
  cover := fun d hd => by
    rcases o.cover d hd with ⟨b, hb, e⟩ | ⟨c, hc, e⟩
    · exact .inl ⟨b, hb, e⟩
    · exact .inr ⟨k c, mk c hc, e⟩
  univ := fun φ u hc => by
    obtain ⟨v, h3, h4⟩ := o.univ φ (fun c => u (k c)) (fun a ha => by
      show φ (f2 (f a)) = u (k (g a))
      rw [hc (f a) (mf a ha), p.comm a ha])
    refine ⟨v, h3, fun d hd => ?_⟩
    rcases p.cover d hd with ⟨b, hb, e⟩ | ⟨c, hc', e⟩
    · rw [← e, ← cm b hb, h3 _ (mf2 b hb), hc b hb]
    · rw [← e]; exact h4 c hc'

open Classical in
/-- A pushout that is pulled back along m is a pushout. -/
theorem po_lift {nA nB nC nD nX nA' nB' nC' : Nat} {f g h k m pa xa pb xb pc xc f' g' : Nat → Nat} (p : PO nA nB nC nD f g h k)
    (mf : Maps nA nB f) (mg : Maps nA nC g) (mm : Maps nX nD m)
    (B : PB nB' nB nX pb xb h m) (C : PB nC' nC nX pc xc k m) (A : PB nA' nA nX pa xa (fun a => h (f a)) m)
    (mpb : Maps nB' nB pb) (mxb : Maps nB' nX xb) (mpc : Maps nC' nC pc) (mxc : Maps nC' nX xc) (mpa : Maps nA' nA pa)
    (mf' : Maps nA' nB' f') (mg' : Maps nA' nC' g')
    (ef : ∀ a, a < nA' → pb (f' a) = f (pa a)) (ef2 : ∀ a, a < nA' → xb (f' a) = xa a)
    (eg : ∀ a, a < nA' → pc (g' a) = g (pa a)) (eg2 : ∀ a, a < nA' → xc (g' a) = xa a) : PO nA' nB' nC' nX f' g' xb xc where
  comm := fun a ha => by rw [ef2 a ha, eg2 a ha]
  cover := fun x hx => by
    rcases p.cover (m x) (mm x hx) with ⟨b, hb, e⟩ | ⟨c, hc, e⟩
    · obtain ⟨b', h1, _, h3⟩ := B.ex b x hb hx e
      exact .inl ⟨b', h1, h3⟩
    · obtain ⟨c', h1, _, h3⟩ := C.ex c x hc hx e
      exact .inr ⟨c', h1, h3⟩
  univ := fun φ ψ hc => by
    let φx : Nat → Nat → Nat := fun x b => if e : ∃ b', b' < nB' ∧ pb b' = b ∧ xb b' = x then φ e.choose + 1 else 0
    let ψx : Nat → Nat → Nat := fun x c => if e : ∃ c', c' < nC' ∧ pc c' = c ∧ xc c' = x then ψ e.choose + 1 else 0
    have hφ : ∀ b', b' < nB' → φx (xb b') (pb b') = φ b' + 1 := fun b' hb' => by
      have e : ∃ b'', b'' < nB' ∧ pb b'' = pb b' ∧ xb b'' = xb b' := ⟨b', hb', rfl, rfl⟩
      have := e.choose_spec
      show (if e : ∃ b'', b'' < nB' ∧ pb b'' = pb b' ∧ xb b'' = xb b' then φ e.choose + 1 else 0) = _
      rw [dif_pos e, B.uniq _ _ this.1 hb' this.2.1 this.2.2]
    have hψ : ∀ c', c' < nC' → ψx (xc c') (pc c') = ψ c' + 1 := fun c' hc' => by
      have e : ∃ c'', c'' < nC' ∧ pc c'' = pc c' ∧ xc c'' = xc c' := ⟨c', hc', rfl, rfl⟩
      have := e.choose_spec
      show (if e : ∃ c'', c'' < nC' ∧ pc c'' = pc c' ∧ xc c'' = xc c' then ψ e.choose + 1 else 0) = _
      rw [dif_pos e, C.uniq _ _ this.1 hc' this.2.1 this.2.2]
    have cone : ∀ x, x < nX → ∃ u : Nat → Nat, (∀ b, b < nB → u (h b) = φx x b) ∧ (∀ c, c < nC → u (k c) = ψx x c) := fun x hx => by
      refine p.univ _ _ fun a ha => ?_
      by_cases e : h (f a) = m x
      · obtain ⟨a', h1, h2, h3⟩ := A.ex a x ha hx e
        have e1 := hφ (f' a') (mf' a' h1)
        have e2 := hψ (g' a') (mg' a' h1)
        rw [ef a' h1, ef2 a' h1, h2, h3] at e1
        rw [eg a' h1, eg2 a' h1, h2, h3] at e2
        rw [e1, e2, hc a' h1]
      · have n1 : ¬ ∃ b', b' < nB' ∧ pb b' = f a ∧ xb b' = x := by
          rintro ⟨b', h1, h2, h3⟩
          have := B.comm b' h1
          rw [h2, h3] at this
          exact e this
        have n2 : ¬ ∃ c', c' < nC' ∧ pc c' = g a ∧ xc c' = x := by
          rintro ⟨c', h1, h2, h3⟩
          have := C.comm c' h1
          rw [h2, h3, ← p.comm a ha] at this
          exact e this
        show (if e : ∃ b', b' < nB' ∧ pb b' = f a ∧ xb b' = x then φ e.choose + 1 else 0) = (if e : ∃ c', c' < nC' ∧ pc c' = g a ∧ xc c' = x then ψ e.choose + 1 else 0)
        rw [dif_neg n1, dif_neg n2]
    refine ⟨fun x => if e : x < nX then (cone x e).choose (m x) - 1 else 0, fun b hb => ?_, fun c hc => ?_⟩
    · have hx := mxb b hb
      have := (cone _ hx).choose_spec.1 (pb b) (mpb b hb)
      show (if e : xb b < nX then (cone (xb b) e).choose (m (xb b)) - 1 else 0) = φ b
      rw [dif_pos hx, ← B.comm b hb, this, hφ b hb]
      rfl
    · have hx := mxc c hc
      have := (cone _ hx).choose_spec.2 (pc c) (mpc c hc)
      show (if e : xc c < nX then (cone (xc c) e).choose (m (xc c)) - 1 else 0) = ψ c
      rw [dif_pos hx, ← C.comm c hc, this, hψ c hc]
      rfl

open Classical in
/-- A pushout along an injective map is a pullback. -/
theorem po_inj {nA nB nC nD : Nat} {f g h k : Nat → Nat} (p : PO nA nB nC nD f g h k) (mf : Maps nA nB f)
    (inj : ∀ a a', a < nA → a' < nA → f a = f a' → a = a') : PB nA nB nC f g h k where
  comm := p.comm
  uniq := fun a a' h1 h2 e _ => inj a a' h1 h2 e
  ex := fun b c hb hc e => by
    obtain ⟨u, h1, h2⟩ := p.univ (fun b => if e : ∃ a, a < nA ∧ f a = b then g e.choose + 1 else 0) (fun c => c + 1) (fun a ha => by
      have e : ∃ a', a' < nA ∧ f a' = f a := ⟨a, ha, rfl⟩
      show (if e : ∃ a', a' < nA ∧ f a' = f a then g e.choose + 1 else 0) = g a + 1
      rw [dif_pos e, inj _ _ e.choose_spec.1 ha e.choose_spec.2])
    have e1 := h1 b hb
    rw [e, h2 c hc] at e1
    by_cases ex : ∃ a, a < nA ∧ f a = b
    · have e2 : c + 1 = g ex.choose + 1 := by rw [dif_pos ex] at e1; exact e1
      exact ⟨ex.choose, ex.choose_spec.1, ex.choose_spec.2, by omega⟩
    · rw [dif_neg ex] at e1
      omega

open Classical in
/-- Two parts that cover a set: what is kept (F) of L lies in the part (K) of G, and nothing else of L does. -/
theorem po_parts {nF nL nK nG : Nat} {f g m k : Nat → Nat} (cm : ∀ a, a < nF → m (f a) = k (g a))
    (ink : ∀ c c', c < nK → c' < nK → k c = k c' → c = c')
    (cover : ∀ d, d < nG → (∃ b, b < nL ∧ m b = d) ∨ (∃ c, c < nK ∧ k c = d))
    (both : ∀ b c, b < nL → c < nK → m b = k c → ∃ a, a < nF ∧ f a = b ∧ g a = c)
    (one : ∀ b b', b < nL → b' < nL → m b = m b' → b = b' ∨ ∃ c, c < nK ∧ k c = m b) : PO nF nL nK nG f g m k where
  comm := cm
  cover := cover
  univ := fun φ ψ hc => by
    let u : Nat → Nat := fun y => if e : ∃ c, c < nK ∧ k c = y then ψ e.choose else if e : ∃ b, b < nL ∧ m b = y then φ e.choose else 0
    have hk : ∀ c, c < nK → u (k c) = ψ c := fun c hc => by
      have e : ∃ c', c' < nK ∧ k c' = k c := ⟨c, hc, rfl⟩
      show (if e : ∃ c', c' < nK ∧ k c' = k c then ψ e.choose else if e : ∃ b, b < nL ∧ m b = k c then φ e.choose else 0) = ψ c
      rw [dif_pos e, ink _ _ e.choose_spec.1 hc e.choose_spec.2]
    refine ⟨u, fun b hb => ?_, hk⟩
    by_cases e : ∃ c, c < nK ∧ k c = m b
    · obtain ⟨c, h1, h2⟩ := e
      obtain ⟨a, h3, h4, h5⟩ := both b c hb h1 h2.symm
      rw [← h2, hk c h1, ← h5, ← hc a h3, h4]
    · have e2 : ∃ b', b' < nL ∧ m b' = m b := ⟨b, hb, rfl⟩
      show (if e : ∃ c', c' < nK ∧ k c' = m b then ψ e.choose else if e : ∃ b', b' < nL ∧ m b' = m b then φ e.choose else 0) = φ b
      rw [dif_neg e, dif_pos e2]
      rcases one _ _ e2.choose_spec.1 hb e2.choose_spec.2 with h | h
      · rw [h]
      · rw [e2.choose_spec.2] at h
        exact absurd h e

theorem pb_parts {nF nL nK : Nat} {f g m k : Nat → Nat} (cm : ∀ a, a < nF → m (f a) = k (g a))
    (inf : ∀ a a', a < nF → a' < nF → f a = f a' → a = a')
    (both : ∀ b c, b < nL → c < nK → m b = k c → ∃ a, a < nF ∧ f a = b ∧ g a = c) : PB nF nL nK f g m k where
  comm := cm
  ex := both
  uniq := fun a a' h1 h2 e _ => inf a a' h1 h2 e

/-- What mediates from a pushout (E) to a pushout (D) is one to one and onto. -/
theorem po_iso {nA nB nC nD nE : Nat} {f g h k p q m : Nat → Nat} (D : PO nA nB nC nD f g h k) (E : PO nA nB nC nE f g p q)
    (mp : Maps nB nE p) (mq : Maps nC nE q) (hm : ∀ b, b < nB → m (p b) = h b) (km : ∀ c, c < nC → m (q c) = k c) :
    (∀ e e', e < nE → e' < nE → m e = m e' → e = e') ∧ (∀ d, d < nD → ∃ e, e < nE ∧ m e = d) := by
  obtain ⟨u, h1, h2⟩ := D.univ p q E.comm
  have hu : ∀ e, e < nE → u (m e) = e := fun e he => by
    rcases E.cover e he with ⟨b, hb, rfl⟩ | ⟨c, hc, rfl⟩
    · rw [hm b hb, h1 b hb]
    · rw [km c hc, h2 c hc]
  refine ⟨fun e e' he he' eq => ?_, fun d hd => ?_⟩
  · rw [← hu e he, ← hu e' he', eq]
  · rcases D.cover d hd with ⟨b, hb, e⟩ | ⟨c, hc, e⟩
    · exact ⟨p b, mp b hb, by rw [hm b hb, e]⟩
    · exact ⟨q c, mq c hc, by rw [km c hc, e]⟩

open Classical in
/-- What a pushout (E) is taken to, one to one and onto, is a pushout. -/
theorem po_of_iso {nA nB nC nD nE : Nat} {f g h k p q m : Nat → Nat} (E : PO nA nB nC nE f g p q)
    (mp : Maps nB nE p) (mq : Maps nC nE q) (hm : ∀ b, b < nB → m (p b) = h b) (km : ∀ c, c < nC → m (q c) = k c)
    (mf : Maps nA nB f) (mg : Maps nA nC g)
    (inj : ∀ e e', e < nE → e' < nE → m e = m e' → e = e') (sur : ∀ d, d < nD → ∃ e, e < nE ∧ m e = d) : PO nA nB nC nD f g h k where
  comm := fun a ha => by rw [← hm _ (mf a ha), ← km _ (mg a ha), E.comm a ha]
  cover := fun d hd => by
    obtain ⟨e, he, rfl⟩ := sur d hd
    rcases E.cover e he with ⟨b, hb, rfl⟩ | ⟨c, hc, rfl⟩
    · exact .inl ⟨b, hb, (hm b hb).symm⟩
    · exact .inr ⟨c, hc, (km c hc).symm⟩
  univ := fun φ ψ hc => by
    obtain ⟨v, h1, h2⟩ := E.univ φ ψ hc
    have inv : ∀ e, e < nE → ∀ x : ∃ e', e' < nE ∧ m e' = m e, x.choose = e := fun e he x => inj _ _ x.choose_spec.1 he x.choose_spec.2
    refine ⟨fun d => if x : ∃ e, e < nE ∧ m e = d then v x.choose else 0, fun b hb => ?_, fun c hc => ?_⟩
    · have x : ∃ e, e < nE ∧ m e = m (p b) := ⟨_, mp b hb, rfl⟩
      rw [← hm b hb]
      show (if x : ∃ e, e < nE ∧ m e = m (p b) then v x.choose else 0) = φ b
      rw [dif_pos x, inv _ (mp b hb) x, h1 b hb]
    · have x : ∃ e, e < nE ∧ m e = m (q c) := ⟨_, mq c hc, rfl⟩
      rw [← km c hc]
      show (if x : ∃ e, e < nE ∧ m e = m (q c) then v x.choose else 0) = ψ c
      rw [dif_pos x, inv _ (mq c hc) x, h2 c hc]

/-- A cone is a pullback exactly if what mediates to a pullback (E) is one to one and onto. -/
theorem pb_iso {nA nB nC nE : Nat} {f g h k p q m : Nat → Nat} (A : PB nA nB nC f g h k) (E : PB nE nB nC p q h k)
    (mp : Maps nE nB p) (mq : Maps nE nC q) (mm : Maps nA nE m) (fm : ∀ a, a < nA → p (m a) = f a) (gm : ∀ a, a < nA → q (m a) = g a) :
    (∀ a a', a < nA → a' < nA → m a = m a' → a = a') ∧ (∀ e, e < nE → ∃ a, a < nA ∧ m a = e) := by
  refine ⟨fun a a' ha ha' e => A.uniq a a' ha ha' (by rw [← fm a ha, ← fm a' ha', e]) (by rw [← gm a ha, ← gm a' ha', e]), fun e he => ?_⟩
  obtain ⟨a, h1, h2, h3⟩ := A.ex (p e) (q e) (mp e he) (mq e he) (E.comm e he)
  exact ⟨a, h1, E.uniq _ _ (mm a h1) he (by rw [fm a h1, h2]) (by rw [gm a h1, h3])⟩

theorem pb_of_iso {nA nB nC nE : Nat} {f g h k p q m : Nat → Nat} (E : PB nE nB nC p q h k)
    (mm : Maps nA nE m) (fm : ∀ a, a < nA → p (m a) = f a) (gm : ∀ a, a < nA → q (m a) = g a)
    (inj : ∀ a a', a < nA → a' < nA → m a = m a' → a = a') (sur : ∀ e, e < nE → ∃ a, a < nA ∧ m a = e) : PB nA nB nC f g h k where
  comm := fun a ha => by rw [← fm a ha, ← gm a ha, E.comm _ (mm a ha)]
  ex := fun b c hb hc e => by
    obtain ⟨x, h1, h2, h3⟩ := E.ex b c hb hc e
    obtain ⟨a, ha, rfl⟩ := sur x h1
    exact ⟨a, ha, by rw [← fm a ha, h2], by rw [← gm a ha, h3]⟩
  uniq := fun a a' ha ha' e1 e2 => inj a a' ha ha' (E.uniq _ _ (mm a ha) (mm a' ha') (by rw [fm a ha, fm a' ha', e1]) (by rw [gm a ha, gm a' ha', e2]))
end Go.Proofs.Ythapbbpdcjmmfaa.Po

/- The standard pushout is a pushout; what mediates out of it. No program in sight. -/
namespace Go.Proofs.Ythapbbpdcjmmfaa
open Abs Po
set_option linter.unusedSimpArgs false
set_option linter.unusedVariables false

/-- A list of numbers as a function. -/
def fn (l : List Int) (i : Nat) : Nat := (nth l i).toNat
theorem fn_at {l : List Int} {n i : Nat} (h : placesIn l n) (hi : i < l.length) : nth l i = (fn l i : Nat) ∧ fn l i < n := by
  have := h _ (nth_mem hi)
  simp only [fn]
  omega
theorem fn_maps {l : List Int} {n m : Nat} (h : placesIn l n) (hl : l.length = m) : Maps m n (fn l) := fun i hi => (fn_at h (by omega)).2
theorem fn_thru {a b : List Int} {i : Nat} (h : i < a.length) : fn (thru a b) i = fn b (fn a i) := by simp only [fn, thru_nth h]
theorem fn_num {a n i : Nat} (h : i < n) : fn (numL a n) i = a + i := by simp only [fn, numL_nth h, Int.toNat_natCast]

theorem cls_surj {p : List Int} : ∀ {n d : Nat}, d < clsN p n → ∃ r : Nat, r < n ∧ nth p r = r ∧ clsN p r = d
  | 0, d, h => absurd h (by simp [clsN])
  | n + 1, d, h => by
    simp only [clsN] at h
    by_cases e : nth p n = n
    · rw [if_pos e] at h
      by_cases e2 : d < clsN p n
      · obtain ⟨r, h1, h2, h3⟩ := cls_surj e2
        exact ⟨r, by omega, h2, h3⟩
      · exact ⟨n, by omega, e, by omega⟩
    · rw [if_neg e] at h
      obtain ⟨r, h1, h2, h3⟩ := cls_surj h
      exact ⟨r, by omega, h2, h3⟩
theorem cls_inj {p : List Int} {a b : Nat} (ha : nth p a = a) (hb : nth p b = b) (h : clsN p a = clsN p b) : a = b := by
  rcases Nat.lt_trichotomy a b with e | e | e
  · have := clsN_lt ha e
    omega
  · exact e
  · have := clsN_lt hb e
    omega
/-- The root of an element's class. -/
theorem root_of {p : List Int} {n i : Nat} (hp : Flat p) (hn : p.length = n) (hi : i < n) : ∃ r : Nat, nth p i = r ∧ r < n ∧ nth p r = r := by
  obtain ⟨j, hj, hle⟩ := hp.fo.at (i := i) (by omega)
  have := hp.fx i (by omega)
  rw [hj, Int.toNat_natCast] at this
  exact ⟨j, hj, by omega, this⟩

section lists
variable {nA nB nC : Nat} {F G : List Int}
def glL (nA nB nC : Nat) (F G : List Int) : List (Int × Int) := pgK F G (numL 0 nB) (numL nB nC) nA
theorem glL_in (lF : F.length = nA) (lG : G.length = nA) (pF : placesIn F nB) (pG : placesIn G nC) : pairsIn (glL nA nB nC F G) (nB + nC) := fun q hq => by
  simp only [glL, pgK, List.mem_map, List.mem_range] at hq
  obtain ⟨i, hi, rfl⟩ := hq
  obtain ⟨a1, a2⟩ := fn_at pF (show i < F.length by omega)
  obtain ⟨b1, b2⟩ := fn_at pG (show i < G.length by omega)
  simp only [a1, b1, Int.toNat_natCast]
  rw [numL_nth a2, numL_nth b2]
  omega
theorem glL_at (lF : F.length = nA) (lG : G.length = nA) (pF : placesIn F nB) (pG : placesIn G nC) {i : Nat} (hi : i < nA) : (((fn F i : Nat) : Int), ((nB + fn G i : Nat) : Int)) ∈ glL nA nB nC F G := by
  simp only [glL, pgK, List.mem_map, List.mem_range]
  obtain ⟨a1, a2⟩ := fn_at pF (show i < F.length by omega)
  obtain ⟨b1, b2⟩ := fn_at pG (show i < G.length by omega)
  refine ⟨i, hi, ?_⟩
  simp only [a1, b1, Int.toNat_natCast]
  rw [numL_nth a2, numL_nth b2]
  simp
theorem glL_mem (lF : F.length = nA) (lG : G.length = nA) (pF : placesIn F nB) (pG : placesIn G nC) {q : Int × Int} (hq : q ∈ glL nA nB nC F G) : ∃ i, i < nA ∧ q = (((fn F i : Nat) : Int), ((nB + fn G i : Nat) : Int)) := by
  simp only [glL, pgK, List.mem_map, List.mem_range] at hq
  obtain ⟨i, hi, rfl⟩ := hq
  obtain ⟨a1, a2⟩ := fn_at pF (show i < F.length by omega)
  obtain ⟨b1, b2⟩ := fn_at pG (show i < G.length by omega)
  refine ⟨i, hi, ?_⟩
  simp only [a1, b1, Int.toNat_natCast]
  rw [numL_nth a2, numL_nth b2]
  simp
def prt (nA nB nC : Nat) (F G : List Int) : List Int := genL (nB + nC) (glL nA nB nC F G)
def qL (nA nB nC : Nat) (F G : List Int) : List Int := thru (numL 0 nB) (quotL (prt nA nB nC F G))
def qR (nA nB nC : Nat) (F G : List Int) : List Int := thru (numL nB nC) (quotL (prt nA nB nC F G))
theorem prt_len : (prt nA nB nC F G).length = nB + nC := genL_len
theorem qL_at {b : Nat} (hb : b < nB) : fn (qL nA nB nC F G) b = clsN (prt nA nB nC F G) (nth (prt nA nB nC F G) b).toNat := by
  rw [qL, fn_thru (by rw [numL_len]; exact hb), fn_num hb, Nat.zero_add, fn, quotL_nth (by rw [prt_len]; omega), Int.toNat_natCast]
theorem qR_at {c : Nat} (hc : c < nC) : fn (qR nA nB nC F G) c = clsN (prt nA nB nC F G) (nth (prt nA nB nC F G) (nB + c)).toNat := by
  rw [qR, fn_thru (by rw [numL_len]; exact hc), fn_num hc, fn, quotL_nth (by rw [prt_len]; omega), Int.toNat_natCast]

open Classical in
/-- The standard pushout of lists of numbers is one. -/
theorem po_lists (lF : F.length = nA) (lG : G.length = nA) (pF : placesIn F nB) (pG : placesIn G nC) :
    PO nA nB nC (clsN (prt nA nB nC F G) (nB + nC)) (fn F) (fn G) (fn (qL nA nB nC F G)) (fn (qR nA nB nC F G)) := by
  have hin := glL_in lF lG pF pG
  have hp : Flat (prt nA nB nC F G) := genL_flat hin
  refine ⟨fun a ha => ?_, fun d hd => ?_, fun φ ψ hc => ?_⟩
  · obtain ⟨_, a2⟩ := fn_at pF (show a < F.length by omega)
    obtain ⟨_, b2⟩ := fn_at pG (show a < G.length by omega)
    rw [qL_at a2, qR_at b2]
    have := genL_pair hin (glL_at lF lG pF pG ha)
    simp only [Int.toNat_natCast] at this
    rw [← prt] at this
    rw [this]
  · obtain ⟨r, h1, h2, h3⟩ := cls_surj hd
    by_cases hb : r < nB
    · exact .inl ⟨r, hb, by rw [qL_at hb, h2, Int.toNat_natCast, h3]⟩
    · refine .inr ⟨r - nB, by omega, ?_⟩
      rw [qR_at (by omega), show nB + (r - nB) = r by omega, h2, Int.toNat_natCast, h3]
  · let f : Nat → Nat := fun i => if i < nB then φ i else ψ (i - nB)
    have hf : ∀ i, i < nB + nC → f (nth (prt nA nB nC F G) i).toNat = f i := fun i hi => genL_inv hin (fun q hq => by
      obtain ⟨j, hj, rfl⟩ := glL_mem lF lG pF pG hq
      obtain ⟨_, a2⟩ := fn_at pF (show j < F.length by omega)
      simp only [Int.toNat_natCast, f]
      rw [if_pos a2, if_neg (by omega), show nB + fn G j - nB = fn G j by omega]
      exact hc j hj) hi
    let u : Nat → Nat := fun d => if e : ∃ r : Nat, nth (prt nA nB nC F G) r = r ∧ clsN (prt nA nB nC F G) r = d then f e.choose else 0
    have hu : ∀ i, i < nB + nC → u (clsN (prt nA nB nC F G) (nth (prt nA nB nC F G) i).toNat) = f i := fun i hi => by
      obtain ⟨r, h1, h2, h3⟩ := root_of hp prt_len hi
      have e : ∃ r' : Nat, nth (prt nA nB nC F G) r' = r' ∧ clsN (prt nA nB nC F G) r' = clsN (prt nA nB nC F G) r := ⟨r, h3, rfl⟩
      have h4 := hf i hi
      rw [h1, Int.toNat_natCast] at h4
      rw [h1, Int.toNat_natCast]
      show (if e : ∃ r' : Nat, nth (prt nA nB nC F G) r' = r' ∧ clsN (prt nA nB nC F G) r' = clsN (prt nA nB nC F G) r then f e.choose else 0) = f i
      rw [dif_pos e, cls_inj e.choose_spec.1 h3 e.choose_spec.2, h4]
    refine ⟨u, fun b hb => ?_, fun c hc' => ?_⟩
    · rw [qL_at hb, hu b (by omega)]
      exact if_pos hb
    · rw [qR_at hc', hu (nB + c) (by omega)]
      simp only [f]
      rw [if_neg (by omega), show nB + c - nB = c by omega]
end lists

/-! ### Writing a list at some places -/
theorem wr_fold {u : Nat → Int} {n : Nat} : ∀ {ws : List (Int × Int)} {o : List Int}, o.length = n → (∀ w ∈ ws, 0 ≤ w.1 ∧ w.1 < n ∧ w.2 = u w.1.toNat) →
    ∀ j, nth (ws.foldl (fun o w => o.set w.1.toNat w.2) o) j = if ∃ w ∈ ws, w.1.toNat = j then u j else nth o j
  | [], o, ho, _, j => by simp
  | w :: r, o, ho, h, j => by
    rw [List.foldl_cons, wr_fold (n := n) (by rw [List.length_set]; exact ho) (fun x hx => h x (List.mem_cons_of_mem _ hx)) j]
    obtain ⟨h1, h2, h3⟩ := h w (List.mem_cons_self ..)
    by_cases e : ∃ x ∈ r, x.1.toNat = j
    · obtain ⟨x, hx, hj⟩ := e
      rw [if_pos ⟨x, hx, hj⟩, if_pos ⟨x, List.mem_cons_of_mem _ hx, hj⟩]
    · rw [if_neg e, nth_set (by omega)]
      by_cases ej : j = w.1.toNat
      · rw [if_pos ej, if_pos ⟨w, List.mem_cons_self .., ej.symm⟩, h3, ej]
      · rw [if_neg ej, if_neg]
        rintro ⟨x, hx, hj⟩
        rcases List.mem_cons.1 hx with rfl | hx
        · exact ej hj.symm
        · exact e ⟨x, hx, hj⟩
theorem wrL_at {u : Nat → Int} {n : Nat} {ws : List (Int × Int)} (h : ∀ w ∈ ws, 0 ≤ w.1 ∧ w.1 < n ∧ w.2 = u w.1.toNat) {w : Int × Int} (hw : w ∈ ws) : nth (wrL n ws) w.1.toNat = w.2 := by
  rw [wrL, wr_fold (n := n) (by simp) h, if_pos ⟨w, hw, rfl⟩, (h w hw).2.2]
end Go.Proofs.Ythapbbpdcjmmfaa

/- The standard pushout of graphs: its morphisms; what mediates out of it; when a cocone is a pushout. No program in sight. -/
namespace Go.Proofs.Ythapbbpdcjmmfaa
open Abs Po
set_option linter.unusedSimpArgs false
set_option linter.unusedVariables false

/-! ### Errors that there are not -/
theorem gErr_of {g : Gr} (h : GrOk g) : gErr g = 0 := by
  have h1 := h.n
  have h2 := h.e
  have b1 : nBad g.nodes = false := by
    rw [nBad, List.any_eq_false]
    intro x hx
    have := h.kinds x hx
    simp [within]
    omega
  have b2 : eBad g.nodes.length g.edges = false := by
    rw [eBad, List.any_eq_false]
    intro e he
    have := h.edges e he
    simp [eOk, within]
    omega
  rw [gErr, if_neg (by omega), b1, b2]
  rfl
theorem mor_zero {a b : Gr} {m : Pa} (h : MorOk a b m) : morErr a b m = 0 := by
  have l1 := h.ln
  have l2 := h.le
  rw [morErr, if_pos (gErr_of h.ga), if_pos (gErr_of h.gb), if_pos (by omega)]
  have e1 : fe (mnF a b m) m.nodes.length = 0 := fe_zero fun i hi => by
    obtain ⟨a1, a2, a3⟩ := h.n i (by omega)
    rw [mnF, if_neg (by omega), if_neg (by omega), if_pos a3]
  have e2 : fe (meF a b m) m.edges.length = 0 := fe_zero fun i hi => by
    obtain ⟨a1, a2, a3, a4, a5⟩ := h.e i (by omega)
    rw [meF, if_neg (by omega), if_neg (by omega), if_pos a3, if_pos a4, if_pos a5]
  rw [if_pos e1, e2]
theorem mor_iff {a b : Gr} {m : Pa} : morErr a b m = 0 ↔ MorOk a b m := ⟨mor_ok, mor_zero⟩

/-- A morphism in functions. -/
structure Hom (a b : Gr) (m : Pa) : Prop where
  ln : m.nodes.length = a.nodes.length
  le : m.edges.length = a.edges.length
  pn : placesIn m.nodes b.nodes.length
  pe : placesIn m.edges b.edges.length
  kn : ∀ i, i < a.nodes.length → nth b.nodes (fn m.nodes i) = nth a.nodes i
  ke : ∀ i, i < a.edges.length → (eth b.edges (fn m.edges i)).t = (eth a.edges i).t ∧ (eth b.edges (fn m.edges i)).f = nth m.nodes (eth a.edges i).f.toNat ∧ (eth b.edges (fn m.edges i)).g = nth m.nodes (eth a.edges i).g.toNat
theorem MorOk.hom {a b : Gr} {m : Pa} (h : MorOk a b m) : Hom a b m := by
  refine ⟨h.ln, h.le, h.rn, h.re, fun i hi => (h.n i hi).2.2, fun i hi => ?_⟩
  obtain ⟨_, _, e1, e2, e3⟩ := h.e i hi
  exact ⟨e1.symm, e2.symm, e3.symm⟩
theorem Hom.ok {a b : Gr} {m : Pa} (h : Hom a b m) (ga : GrOk a) (gb : GrOk b) : MorOk a b m := by
  refine ⟨ga, gb, h.ln, h.le, fun i hi => ?_, fun i hi => ?_⟩
  · have := h.pn _ (nth_mem (l := m.nodes) (k := i) (by rw [h.ln]; exact hi))
    exact ⟨this.1, this.2, h.kn i hi⟩
  · have := h.pe _ (nth_mem (l := m.edges) (k := i) (by rw [h.le]; exact hi))
    obtain ⟨e1, e2, e3⟩ := h.ke i hi
    exact ⟨this.1, this.2, e1.symm, e2.symm, e3.symm⟩
theorem Hom.mn {a b : Gr} {m : Pa} (h : Hom a b m) : Maps a.nodes.length b.nodes.length (fn m.nodes) := fn_maps h.pn h.ln
theorem Hom.me {a b : Gr} {m : Pa} (h : Hom a b m) : Maps a.edges.length b.edges.length (fn m.edges) := fn_maps h.pe h.le

/-- The two squares of functions of a span with a cocone are pushouts. -/
def IsPO (s : Sp) (d : Gr) (h k : Pa) : Prop :=
  PO s.A.nodes.length s.B.nodes.length s.C.nodes.length d.nodes.length (fn s.F.nodes) (fn s.G.nodes) (fn h.nodes) (fn k.nodes) ∧
  PO s.A.edges.length s.B.edges.length s.C.edges.length d.edges.length (fn s.F.edges) (fn s.G.edges) (fn h.edges) (fn k.edges)

theorem poP_prt {s : Sp} : poP s = prt s.F.nodes.length s.B.nodes.length s.C.nodes.length s.F.nodes s.G.nodes := by rw [poP, poU, unG_nlen]; rfl
theorem poQ_prt {s : Sp} : poQ s = prt s.F.edges.length s.B.edges.length s.C.edges.length s.F.edges s.G.edges := by rw [poQ, poU, unG_elen]; rfl
theorem poI_q {s : Sp} : (poI s).nodes = qL s.F.nodes.length s.B.nodes.length s.C.nodes.length s.F.nodes s.G.nodes ∧ (poI s).edges = qL s.F.edges.length s.B.edges.length s.C.edges.length s.F.edges s.G.edges := by
  rw [qL, qL, ← poP_prt, ← poQ_prt]; exact ⟨rfl, rfl⟩
theorem poJ_q {s : Sp} : (poJ s).nodes = qR s.F.nodes.length s.B.nodes.length s.C.nodes.length s.F.nodes s.G.nodes ∧ (poJ s).edges = qR s.F.edges.length s.B.edges.length s.C.edges.length s.F.edges s.G.edges := by
  rw [qR, qR, ← poP_prt, ← poQ_prt]; exact ⟨rfl, rfl⟩
theorem poG_len {s : Sp} : (poG s).nodes.length = clsN (poP s) (s.B.nodes.length + s.C.nodes.length) ∧ (poG s).edges.length = clsN (poQ s) (s.B.edges.length + s.C.edges.length) := by
  rw [poG, quoG_nlen, quoG_elen, poU, unG_nlen, unG_elen]; exact ⟨rfl, rfl⟩
/-- The standard pushout is one. -/
theorem po_std {s : Sp} (ok : SpOk s) : IsPO s (poG s) (poI s) (poJ s) := by
  have l1 := ok.F.ln
  have l2 := ok.F.le
  refine ⟨?_, ?_⟩
  · rw [poI_q.1, poJ_q.1, poG_len.1, poP_prt, ← l1]
    exact po_lists rfl (by rw [ok.G.ln, l1]) ok.F.rn ok.G.rn
  · rw [poI_q.2, poJ_q.2, poG_len.2, poQ_prt, ← l2]
    exact po_lists rfl (by rw [ok.G.le, l2]) ok.F.re ok.G.re

theorem poI_nat {s : Sp} {b : Nat} (hb : b < s.B.nodes.length) : nth (poI s).nodes b = (clsN (poP s) (nth (poP s) b).toNat : Nat) := by
  show nth (thru (numL 0 s.B.nodes.length) (quotL (poP s))) b = _
  rw [thru_nth (by rw [numL_len]; exact hb), numL_nth hb, Int.toNat_natCast, Nat.zero_add, quotL_nth (by rw [poP_len]; omega)]
theorem poJ_nat {s : Sp} {c : Nat} (hc : c < s.C.nodes.length) : nth (poJ s).nodes c = (clsN (poP s) (nth (poP s) (s.B.nodes.length + c)).toNat : Nat) := by
  show nth (thru (numL s.B.nodes.length s.C.nodes.length) (quotL (poP s))) c = _
  rw [thru_nth (by rw [numL_len]; exact hc), numL_nth hc, Int.toNat_natCast, quotL_nth (by rw [poP_len]; omega)]
theorem poI_eat {s : Sp} {b : Nat} (hb : b < s.B.edges.length) : nth (poI s).edges b = (clsN (poQ s) (nth (poQ s) b).toNat : Nat) := by
  show nth (thru (numL 0 s.B.edges.length) (quotL (poQ s))) b = _
  rw [thru_nth (by rw [numL_len]; exact hb), numL_nth hb, Int.toNat_natCast, Nat.zero_add, quotL_nth (by rw [poQ_len]; omega)]
theorem poJ_eat {s : Sp} {c : Nat} (hc : c < s.C.edges.length) : nth (poJ s).edges c = (clsN (poQ s) (nth (poQ s) (s.B.edges.length + c)).toNat : Nat) := by
  show nth (thru (numL s.B.edges.length s.C.edges.length) (quotL (poQ s))) c = _
  rw [thru_nth (by rw [numL_len]; exact hc), numL_nth hc, Int.toNat_natCast, quotL_nth (by rw [poQ_len]; omega)]

theorem poG_node {s : Sp} (ok : SpOk s) {i : Nat} (hi : i < s.B.nodes.length + s.C.nodes.length) : nth (poG s).nodes (clsN (poP s) (nth (poP s) i).toNat) = nth (poU s).nodes i := by
  obtain ⟨r, h1, h2, h3⟩ := root_of (poP_flat ok) poP_len hi
  have hc := poN_const ok i (by rw [poU, unG_nlen]; exact hi)
  rw [h1, Int.toNat_natCast] at hc ⊢
  have := clsF_get (f := nth (poU s).nodes) h3 (k := (poU s).nodes.length) (by rw [poU, unG_nlen]; exact h2)
  rw [← hc]
  show ((collect (clsF (poP s) (nth (poU s).nodes)) (poU s).nodes.length).getD (clsN (poP s) r) 0) = _
  rw [List.getD, this]
  rfl
theorem poG_edge {s : Sp} (ok : SpOk s) {i : Nat} (hi : i < s.B.edges.length + s.C.edges.length) : eth (poG s).edges (clsN (poQ s) (nth (poQ s) i).toNat) = qE (poU s) (poP s) i := by
  obtain ⟨r, h1, h2, h3⟩ := root_of (poQ_flat ok) poQ_len hi
  have hc := poE_const ok i (by rw [poU, unG_elen]; exact hi)
  rw [h1, Int.toNat_natCast] at hc ⊢
  have := clsF_get (f := qE (poU s) (poP s)) h3 (k := (poU s).edges.length) (by rw [poU, unG_elen]; exact h2)
  rw [← hc]
  show ((collect (clsF (poQ s) (qE (poU s) (poP s))) (poU s).edges.length).getD (clsN (poQ s) r) ⟨0, 0, 0⟩) = _
  rw [List.getD, this]
  rfl

theorem poI_hom {s : Sp} (ok : SpOk s) : Hom s.B (poG s) (poI s) := by
  refine ⟨poI_len.1, poI_len.2, poI_nin ok, poI_ein ok, fun i hi => ?_, fun i hi => ?_⟩
  · rw [fn, poI_nat hi, Int.toNat_natCast, poG_node ok (by omega), poU_nL hi]
  · rw [fn, poI_eat hi, Int.toNat_natCast, poG_edge ok (by omega), qE, poU_eL hi]
    obtain ⟨_, _, g1, g2, g3, g4⟩ := ok.F.gb.edges _ (eth_mem hi)
    have l := poP_len (s := s)
    rw [poI_nat (by omega), poI_nat (by omega), quotL_nth (by omega), quotL_nth (by omega)]
    exact ⟨rfl, rfl, rfl⟩
theorem poJ_hom {s : Sp} (ok : SpOk s) : Hom s.C (poG s) (poJ s) := by
  refine ⟨poJ_len.1, poJ_len.2, poJ_nin ok, poJ_ein ok, fun i hi => ?_, fun i hi => ?_⟩
  · rw [fn, poJ_nat hi, Int.toNat_natCast, poG_node ok (by omega), poU_nR hi]
  · rw [fn, poJ_eat hi, Int.toNat_natCast, poG_edge ok (by omega), qE, poU_eR hi]
    obtain ⟨_, _, g1, g2, g3, g4⟩ := ok.G.gb.edges _ (eth_mem hi)
    have l := poP_len (s := s)
    obtain ⟨x, hx⟩ := Int.eq_ofNat_of_zero_le g1
    obtain ⟨y, hy⟩ := Int.eq_ofNat_of_zero_le g3
    have z1 : ((x : Int) + s.B.nodes.length).toNat = s.B.nodes.length + x := by omega
    have z2 : ((y : Int) + s.B.nodes.length).toNat = s.B.nodes.length + y := by omega
    simp only [shiftE, hx, hy, Int.toNat_natCast, z1, z2]
    rw [poJ_nat (by omega), poJ_nat (by omega), quotL_nth (by omega), quotL_nth (by omega)]
    refine ⟨?_, ?_, ?_⟩ <;> first | rfl | trivial
theorem poG_ok {s : Sp} (ok : SpOk s) (hu : unErr s.B s.C = 0) : GrOk (poG s) := by
  have hf := poG_few hu
  have po := po_std ok
  have hi := poI_hom ok
  have hj := poJ_hom ok
  refine ⟨hf.1, hf.2, fun x hx => ?_, fun e he => ?_⟩
  · obtain ⟨d, hd, rfl⟩ := mem_nth hx
    rcases po.1.cover d hd with ⟨b, hb, rfl⟩ | ⟨c, hc, rfl⟩
    · rw [hi.kn b hb]; exact ok.F.gb.kinds _ (nth_mem hb)
    · rw [hj.kn c hc]; exact ok.G.gb.kinds _ (nth_mem hc)
  · obtain ⟨d, hd, rfl⟩ := mem_eth he
    rcases po.2.cover d hd with ⟨b, hb, rfl⟩ | ⟨c, hc, rfl⟩
    · obtain ⟨e1, e2, e3⟩ := hi.ke b hb
      obtain ⟨t1, t2, g1, g2, g3, g4⟩ := ok.F.gb.edges _ (eth_mem hb)
      have l := hi.ln
      have p1 := hi.pn _ (nth_mem (l := (poI s).nodes) (k := (eth s.B.edges b).f.toNat) (by omega))
      have p2 := hi.pn _ (nth_mem (l := (poI s).nodes) (k := (eth s.B.edges b).g.toNat) (by omega))
      rw [e1, e2, e3]
      exact ⟨t1, t2, p1.1, p1.2, p2.1, p2.2⟩
    · obtain ⟨e1, e2, e3⟩ := hj.ke c hc
      obtain ⟨t1, t2, g1, g2, g3, g4⟩ := ok.G.gb.edges _ (eth_mem hc)
      have l := hj.ln
      have p1 := hj.pn _ (nth_mem (l := (poJ s).nodes) (k := (eth s.C.edges c).f.toNat) (by omega))
      have p2 := hj.pn _ (nth_mem (l := (poJ s).nodes) (k := (eth s.C.edges c).g.toNat) (by omega))
      rw [e1, e2, e3]
      exact ⟨t1, t2, p1.1, p1.2, p2.1, p2.2⟩

/-! ### What mediates -/
theorem zip_mem {p h : List Int} (hl : p.length = h.length) {w : Int × Int} : w ∈ p.zip h ↔ ∃ i, i < p.length ∧ w = (nth p i, nth h i) := by
  constructor
  · intro hw
    obtain ⟨i, hi, rfl⟩ := List.mem_iff_getElem.1 hw
    simp only [List.length_zip] at hi
    exact ⟨i, by omega, by rw [List.getElem_zip, nth_eq (by omega), nth_eq (by omega)]⟩
  · rintro ⟨i, hi, rfl⟩
    refine List.mem_iff_getElem.2 ⟨i, by simp; omega, ?_⟩
    rw [List.getElem_zip, nth_eq hi, nth_eq (by omega)]
theorem med_lists {n m nB nC : Nat} {p q h k : List Int} (lp : p.length = nB) (lq : q.length = nC) (lh : h.length = nB) (lk : k.length = nC) (pp : placesIn p n) (pq : placesIn q n) (ph : placesIn h m) (pk : placesIn k m)
    {u : Nat → Nat} (hu : ∀ b, b < nB → u (fn p b) = fn h b) (hv : ∀ c, c < nC → u (fn q c) = fn k c) :
    (∀ b, b < nB → nth (wrL n (p.zip h ++ q.zip k)) (fn p b) = nth h b) ∧ (∀ c, c < nC → nth (wrL n (p.zip h ++ q.zip k)) (fn q c) = nth k c) := by
  have key : ∀ w ∈ p.zip h ++ q.zip k, 0 ≤ w.1 ∧ w.1 < n ∧ w.2 = ((u w.1.toNat : Nat) : Int) := fun w hw => by
    rcases List.mem_append.1 hw with hw | hw
    · obtain ⟨i, hi, rfl⟩ := (zip_mem (by omega)).1 hw
      have h1 := pp _ (nth_mem hi)
      obtain ⟨h2, _⟩ := fn_at ph (show i < h.length by omega)
      exact ⟨h1.1, h1.2, by rw [h2, ← hu i (by omega)]; rfl⟩
    · obtain ⟨i, hi, rfl⟩ := (zip_mem (by omega)).1 hw
      have h1 := pq _ (nth_mem hi)
      obtain ⟨h2, _⟩ := fn_at pk (show i < k.length by omega)
      exact ⟨h1.1, h1.2, by rw [h2, ← hv i (by omega)]; rfl⟩
  refine ⟨fun b hb => ?_, fun c hc => ?_⟩
  · exact wrL_at (u := fun i => (u i : Nat)) key (w := (nth p b, nth h b)) (List.mem_append_left _ ((zip_mem (by omega)).2 ⟨b, by omega, rfl⟩))
  · exact wrL_at (u := fun i => (u i : Nat)) key (w := (nth q c, nth k c)) (List.mem_append_right _ ((zip_mem (by omega)).2 ⟨c, by omega, rfl⟩))

theorem same_thru {a b f g : List Int} (h : thru a f = thru b g) {i : Nat} (ha : i < a.length) (hb : i < b.length) : fn f (fn a i) = fn g (fn b i) := by
  have := congrArg (fun l => (nth l i).toNat) h
  simp only [thru_nth ha, thru_nth hb] at this
  exact this

/-- A cocone: valid morphisms with equal compositions. -/
structure Cone (s : Sp) (d : Gr) (h k : Pa) : Prop where
  ok : SpOk s
  mp : MorOk s.B d h
  mq : MorOk s.C d k
  un : unErr s.B s.C = 0
  cn : ∀ i, i < s.A.nodes.length → fn h.nodes (fn s.F.nodes i) = fn k.nodes (fn s.G.nodes i)
  ce : ∀ i, i < s.A.edges.length → fn h.edges (fn s.F.edges i) = fn k.edges (fn s.G.edges i)
theorem pm_cone {s : Sp} {d : Gr} {h k : Pa} (e : pmE s d h k = 0) : Cone s d h k := by
  obtain ⟨h1, h2, h3, h4, h5⟩ := pmE_ok e
  have ok := spErr_ok h1
  have l1 := ok.F.ln
  have l2 := ok.F.le
  have l3 := ok.G.ln
  have l4 := ok.G.le
  have h6 := sameP_iff.1 h5
  injection h6 with h6 h7
  exact ⟨ok, mor_ok h2, mor_ok h3, h4, fun i hi => same_thru h6 (by omega) (by omega), fun i hi => same_thru h7 (by omega) (by omega)⟩

theorem pm_at {s : Sp} {d : Gr} {h k : Pa} (c : Cone s d h k) :
    ((∀ b, b < s.B.nodes.length → nth (pmC s h k).nodes (fn (poI s).nodes b) = nth h.nodes b) ∧ (∀ b, b < s.C.nodes.length → nth (pmC s h k).nodes (fn (poJ s).nodes b) = nth k.nodes b)) ∧
    ((∀ b, b < s.B.edges.length → nth (pmC s h k).edges (fn (poI s).edges b) = nth h.edges b) ∧ (∀ b, b < s.C.edges.length → nth (pmC s h k).edges (fn (poJ s).edges b) = nth k.edges b)) := by
  have po := po_std c.ok
  have hi := poI_hom c.ok
  have hj := poJ_hom c.ok
  obtain ⟨u, u1, u2⟩ := po.1.univ (fn h.nodes) (fn k.nodes) c.cn
  obtain ⟨v, v1, v2⟩ := po.2.univ (fn h.edges) (fn k.edges) c.ce
  exact ⟨med_lists hi.ln hj.ln c.mp.ln c.mq.ln hi.pn hj.pn c.mp.rn c.mq.rn u1 u2, med_lists hi.le hj.le c.mp.le c.mq.le hi.pe hj.pe c.mp.re c.mq.re v1 v2⟩
theorem pmC_len {s : Sp} {h k : Pa} : (pmC s h k).nodes.length = (poG s).nodes.length ∧ (pmC s h k).edges.length = (poG s).edges.length := ⟨wrL_len, wrL_len⟩
theorem pm_hom {s : Sp} {d : Gr} {h k : Pa} (c : Cone s d h k) : Hom (poG s) d (pmC s h k) := by
  have po := po_std c.ok
  have hi := poI_hom c.ok
  have hj := poJ_hom c.ok
  obtain ⟨⟨n1, n2⟩, e1, e2⟩ := pm_at c
  have hh := c.mp.hom
  have hk := c.mq.hom
  refine ⟨pmC_len.1, pmC_len.2, fun x hx => ?_, fun x hx => ?_, fun i hi' => ?_, fun i hi' => ?_⟩
  · obtain ⟨i, hi', rfl⟩ := mem_nth hx
    rw [pmC_len.1] at hi'
    rcases po.1.cover i hi' with ⟨b, hb, rfl⟩ | ⟨b, hb, rfl⟩
    · rw [n1 b hb]; exact hh.pn _ (nth_mem (by rw [hh.ln]; exact hb))
    · rw [n2 b hb]; exact hk.pn _ (nth_mem (by rw [hk.ln]; exact hb))
  · obtain ⟨i, hi', rfl⟩ := mem_nth hx
    rw [pmC_len.2] at hi'
    rcases po.2.cover i hi' with ⟨b, hb, rfl⟩ | ⟨b, hb, rfl⟩
    · rw [e1 b hb]; exact hh.pe _ (nth_mem (by rw [hh.le]; exact hb))
    · rw [e2 b hb]; exact hk.pe _ (nth_mem (by rw [hk.le]; exact hb))
  · rcases po.1.cover i hi' with ⟨b, hb, rfl⟩ | ⟨b, hb, rfl⟩
    · rw [fn, n1 b hb, hi.kn b hb]; exact hh.kn b hb
    · rw [fn, n2 b hb, hj.kn b hb]; exact hk.kn b hb
  · rcases po.2.cover i hi' with ⟨b, hb, rfl⟩ | ⟨b, hb, rfl⟩
    · obtain ⟨a1, a2, a3⟩ := hi.ke b hb
      obtain ⟨b1, b2, b3⟩ := hh.ke b hb
      obtain ⟨_, _, g1, g2, g3, g4⟩ := c.ok.F.gb.edges _ (eth_mem hb)
      have m1 := n1 (eth s.B.edges b).f.toNat (by omega)
      have m2 := n1 (eth s.B.edges b).g.toNat (by omega)
      rw [fn] at m1 m2
      rw [fn, e1 b hb, a1, a2, a3, m1, m2]
      exact ⟨b1, b2, b3⟩
    · obtain ⟨a1, a2, a3⟩ := hj.ke b hb
      obtain ⟨b1, b2, b3⟩ := hk.ke b hb
      obtain ⟨_, _, g1, g2, g3, g4⟩ := c.ok.G.gb.edges _ (eth_mem hb)
      have m1 := n2 (eth s.C.edges b).f.toNat (by omega)
      have m2 := n2 (eth s.C.edges b).g.toNat (by omega)
      rw [fn] at m1 m2
      rw [fn, e2 b hb, a1, a2, a3, m1, m2]
      exact ⟨b1, b2, b3⟩

/-! ### One to one and onto -/
theorem nodup_fn {l : List Int} {n m : Nat} (hl : l.length = n) (pl : placesIn l m) : l.Nodup ↔ ∀ i j, i < n → j < n → fn l i = fn l j → i = j := by
  rw [List.nodup_iff_pairwise_ne, List.pairwise_iff_getElem]
  constructor
  · intro h i j hi hj e
    have e2 : l[i]'(by omega) = l[j]'(by omega) := by
      rw [← nth_eq, ← nth_eq, (fn_at pl (show i < l.length by omega)).1, (fn_at pl (show j < l.length by omega)).1, e]
    rcases Nat.lt_trichotomy i j with h3 | h3 | h3
    · exact absurd e2 (h i j _ _ h3)
    · exact h3
    · exact absurd e2.symm (h j i _ _ h3)
  · intro h i j hi hj hij e
    have := h i j (by omega) (by omega) (by rw [fn, fn, nth_eq hi, nth_eq hj, e])
    omega
theorem cov_fn {l : List Int} {n m : Nat} (hl : l.length = n) (pl : placesIn l m) : covB l m = true ↔ ∀ d, d < m → ∃ i, i < n ∧ fn l i = d := by
  simp only [covB, decide_eq_true_eq]
  refine forall_congr' fun d => imp_congr_right fun hd => ?_
  constructor
  · intro h
    obtain ⟨i, hi, e⟩ := mem_nth h
    exact ⟨i, by omega, by rw [fn, e]; rfl⟩
  · rintro ⟨i, hi, rfl⟩
    rw [← (fn_at pl (show i < l.length by omega)).1]
    exact nth_mem (by omega)

/-- A cocone is accepted exactly if it is a pushout. -/
theorem poChk_iff {s : Sp} {d : Gr} {h k : Pa} (e : pmE s d h k = 0) : poChk s d h k = true ↔ IsPO s d h k := by
  have c := pm_cone e
  have po := po_std c.ok
  have hm := pm_hom c
  have hi := poI_hom c.ok
  have hj := poJ_hom c.ok
  have em := mor_zero (hm.ok (poG_ok c.ok c.un) c.mp.gb)
  obtain ⟨⟨n1, n2⟩, e1, e2⟩ := pm_at c
  have z1 : ∀ b, b < s.B.nodes.length → fn (pmC s h k).nodes (fn (poI s).nodes b) = fn h.nodes b := fun b hb => by rw [fn, n1 b hb]; rfl
  have z2 : ∀ b, b < s.C.nodes.length → fn (pmC s h k).nodes (fn (poJ s).nodes b) = fn k.nodes b := fun b hb => by rw [fn, n2 b hb]; rfl
  have z3 : ∀ b, b < s.B.edges.length → fn (pmC s h k).edges (fn (poI s).edges b) = fn h.edges b := fun b hb => by rw [fn, e1 b hb]; rfl
  have z4 : ∀ b, b < s.C.edges.length → fn (pmC s h k).edges (fn (poJ s).edges b) = fn k.edges b := fun b hb => by rw [fn, e2 b hb]; rfl
  have key : poChk s d h k = true ↔ (((pmC s h k).nodes.Nodup ∧ (pmC s h k).edges.Nodup) ∧ (covB (pmC s h k).nodes d.nodes.length = true ∧ covB (pmC s h k).edges d.edges.length = true)) := by
    simp [poChk, e, injB, surjB, em]
  rw [key, nodup_fn hm.ln hm.pn, nodup_fn hm.le hm.pe, cov_fn hm.ln hm.pn, cov_fn hm.le hm.pe]
  constructor
  · rintro ⟨⟨a1, a2⟩, b1, b2⟩
    exact ⟨po_of_iso po.1 hi.mn hj.mn z1 z2 c.ok.F.hom.mn c.ok.G.hom.mn a1 b1, po_of_iso po.2 hi.me hj.me z3 z4 c.ok.F.hom.me c.ok.G.hom.me a2 b2⟩
  · rintro ⟨p1, p2⟩
    obtain ⟨a1, b1⟩ := po_iso p1 po.1 hi.mn hj.mn z1 z2
    obtain ⟨a2, b2⟩ := po_iso p2 po.2 hi.me hj.me z3 z4
    exact ⟨⟨a1, a2⟩, b1, b2⟩
end Go.Proofs.Ythapbbpdcjmmfaa

/- The standard pullback of graphs; what mediates into it; when a cone is a pullback. No program in sight. -/
namespace Go.Proofs.Ythapbbpdcjmmfaa
open Abs Po
set_option linter.unusedSimpArgs false
set_option linter.unusedVariables false

theorem collect_pb_nodup {f g : List Int} {i : Nat} : ∀ n, (collect (pbF f g i) n).Nodup ∧ ∀ q ∈ collect (pbF f g i) n, q.1 = i ∧ q.2 < n
  | 0 => ⟨List.nodup_nil, fun q hq => by simp [collect_zero] at hq⟩
  | n + 1 => by
    obtain ⟨h1, h2⟩ := collect_pb_nodup (f := f) (g := g) (i := i) n
    by_cases e : nth f i = nth g n
    · rw [collect_some (x := ((i : Int), (n : Int))) (by rw [pbF, if_pos e])]
      refine ⟨List.nodup_append.2 ⟨h1, by simp, fun a ha b hb => ?_⟩, fun q hq => ?_⟩
      · simp at hb
        subst hb
        rintro rfl
        have := (h2 _ ha).2
        simp at this
      · rcases List.mem_append.1 hq with hq | hq
        · have := h2 q hq
          exact ⟨this.1, by omega⟩
        · simp at hq
          subst hq
          exact ⟨rfl, by show (n : Int) < (n + 1 : Nat); omega⟩
    · rw [collect_none (by rw [pbF, if_neg e])]
      exact ⟨h1, fun q hq => ⟨(h2 q hq).1, by have := (h2 q hq).2; omega⟩⟩
theorem gather_pb_nodup {f g : List Int} : ∀ n, (gather (fun i => collect (pbF f g i) g.length) n).Nodup ∧ ∀ q ∈ gather (fun i => collect (pbF f g i) g.length) n, q.1 < n
  | 0 => ⟨List.nodup_nil, fun q hq => by simp [gather_zero] at hq⟩
  | n + 1 => by
    obtain ⟨h1, h2⟩ := gather_pb_nodup (f := f) (g := g) n
    obtain ⟨k1, k2⟩ := collect_pb_nodup (f := f) (g := g) (i := n) g.length
    rw [gather_succ]
    refine ⟨List.nodup_append.2 ⟨h1, k1, fun a ha b hb => ?_⟩, fun q hq => ?_⟩
    · rintro rfl
      have e1 := h2 _ ha
      have e2 := (k2 _ hb).1
      omega
    · rcases List.mem_append.1 hq with hq | hq
      · have := h2 q hq
        omega
      · have := (k2 q hq).1
        omega
theorem pbP_nodup {f g : List Int} : (pbP f g).Nodup := (gather_pb_nodup f.length).1
theorem pth_inj {l : List (Int × Int)} (h : l.Nodup) {i j : Nat} (hi : i < l.length) (hj : j < l.length) (e : pth l i = pth l j) : i = j := by
  rw [List.nodup_iff_pairwise_ne, List.pairwise_iff_getElem] at h
  rw [pth_eq' hi, pth_eq' hj] at e
  rcases Nat.lt_trichotomy i j with h3 | h3 | h3
  · exact absurd e (h i j hi hj h3)
  · exact h3
  · exact absurd e.symm (h j i hj hi h3)
theorem nth_fst {l : List (Int × Int)} {i : Nat} (h : i < l.length) : nth (fstL l) i = (pth l i).1 := by
  rw [nth_eq (by rw [fstL_len]; exact h), pth_eq' h]; simp [fstL]
theorem nth_snd {l : List (Int × Int)} {i : Nat} (h : i < l.length) : nth (sndL l) i = (pth l i).2 := by
  rw [nth_eq (by rw [sndL_len]; exact h), pth_eq' h]; simp [sndL]

/-- The standard pullback of lists of numbers is one. -/
theorem pb_lists {nB nC m : Nat} {F G : List Int} (lF : F.length = nB) (lG : G.length = nC) (pF : placesIn F m) (pG : placesIn G m) :
    PB (pbP F G).length nB nC (fn (fstL (pbP F G))) (fn (sndL (pbP F G))) (fn F) (fn G) := by
  have at_ : ∀ a, a < (pbP F G).length → ∃ i k : Nat, i < nB ∧ k < nC ∧ nth F i = nth G k ∧ fn (fstL (pbP F G)) a = i ∧ fn (sndL (pbP F G)) a = k ∧ pth (pbP F G) a = ((i : Int), (k : Int)) := fun a ha => by
    obtain ⟨i, k, h1, h2, h3, h4⟩ := mem_pbP.1 (pth_mem ha)
    exact ⟨i, k, by omega, by omega, h3, by rw [fn, nth_fst ha, h4]; rfl, by rw [fn, nth_snd ha, h4]; rfl, h4⟩
  refine ⟨fun a ha => ?_, fun b c hb hc e => ?_, fun a a' ha ha' e1 e2 => ?_⟩
  · obtain ⟨i, k, h1, h2, h3, h4, h5, _⟩ := at_ a ha
    rw [h4, h5, fn, fn, h3]
  · have hm : ((b : Int), (c : Int)) ∈ pbP F G := mem_pbP.2 ⟨b, c, by omega, by omega, by rw [(fn_at pF (show b < F.length by omega)).1, (fn_at pG (show c < G.length by omega)).1, e], rfl⟩
    have h1 := idxP_lt hm
    have h0 := idxP_pos.2 hm
    have h2 := idxP_get hm
    have hl : (idxP (pbP F G) ((b : Int), (c : Int))).toNat < (pbP F G).length := by omega
    exact ⟨_, hl, by rw [fn, nth_fst hl, h2]; rfl, by rw [fn, nth_snd hl, h2]; rfl⟩
  · obtain ⟨i, k, h1, h2, h3, h4, h5, h6⟩ := at_ a ha
    obtain ⟨i', k', h1', h2', h3', h4', h5', h6'⟩ := at_ a' ha'
    refine pth_inj pbP_nodup ha ha' ?_
    rw [h6, h6', ← h4, ← h4', ← h5, ← h5', e1, e2]

/-- The two squares of functions of a cospan with a cone are pullbacks. -/
def IsPB (s : Co) (a : Gr) (h k : Pa) : Prop :=
  PB a.nodes.length s.B.nodes.length s.C.nodes.length (fn h.nodes) (fn k.nodes) (fn s.F.nodes) (fn s.G.nodes) ∧
  PB a.edges.length s.B.edges.length s.C.edges.length (fn h.edges) (fn k.edges) (fn s.F.edges) (fn s.G.edges)

theorem pbG_len {s : Co} : (pbG s).nodes.length = (pbNs s).length ∧ (pbG s).edges.length = (pbEs s).length := by simp [pbG]
theorem pbG_nth {s : Co} {i : Nat} (h : i < (pbNs s).length) : nth (pbG s).nodes i = pbNode s (pth (pbNs s) i) := by
  rw [nth_eq (by rw [pbG_len.1]; exact h), pth_eq' h]; simp [pbG]
theorem pbG_eth {s : Co} {i : Nat} (h : i < (pbEs s).length) : eth (pbG s).edges i = pbEdge s (pth (pbEs s) i) := by
  rw [eth_eq (by rw [pbG_len.2]; exact h), pth_eq' h]; simp [pbG]

def pbDown (c : Co) : Pa := ⟨fstL (pbNs c), fstL (pbEs c)⟩
def pbUpp (c : Co) : Pa := ⟨sndL (pbNs c), sndL (pbEs c)⟩
/-- The standard pullback is one. -/
theorem pb_std {s : Co} (ok : CoOk s) : IsPB s (pbG s) (pbDown s) (pbUpp s) := by
  refine ⟨?_, ?_⟩
  · rw [pbG_len.1]; exact pb_lists ok.F.ln ok.G.ln ok.F.rn ok.G.rn
  · rw [pbG_len.2]; exact pb_lists ok.F.le ok.G.le ok.F.re ok.G.re

/-- The ends of a pair of edges are pairs of nodes. -/
theorem pb_ends {s : Co} (ok : CoOk s) {i k : Nat} (hi : i < s.B.edges.length) (hk : k < s.C.edges.length) (e : nth s.F.edges i = nth s.G.edges k) :
    ((eth s.B.edges i).f, (eth s.C.edges k).f) ∈ pbNs s ∧ ((eth s.B.edges i).g, (eth s.C.edges k).g) ∈ pbNs s := by
  obtain ⟨_, _, t1, u1, v1⟩ := ok.F.e i hi
  obtain ⟨_, _, t2, u2, v2⟩ := ok.G.e k hk
  rw [e] at u1 v1
  obtain ⟨_, _, g1, g2, g3, g4⟩ := ok.F.ga.edges _ (eth_mem hi)
  obtain ⟨_, _, p1, p2, p3, p4⟩ := ok.G.ga.edges _ (eth_mem hk)
  have l1 := ok.F.ln
  have l2 := ok.G.ln
  exact ⟨mem_pbP.2 ⟨(eth s.B.edges i).f.toNat, (eth s.C.edges k).f.toNat, by omega, by omega, by rw [u1, u2], by rw [Int.toNat_of_nonneg g1, Int.toNat_of_nonneg p1]⟩,
    mem_pbP.2 ⟨(eth s.B.edges i).g.toNat, (eth s.C.edges k).g.toNat, by omega, by omega, by rw [v1, v2], by rw [Int.toNat_of_nonneg g3, Int.toNat_of_nonneg p3]⟩⟩

theorem pbG_ok {s : Co} (h : pbErr s = 0) : GrOk (pbG s) := by
  obtain ⟨ok, h1, h2⟩ := pbErr_few h
  refine ⟨by rw [pbG_len.1]; exact h1, by rw [pbG_len.2]; exact h2, fun x hx => ?_, fun e he => ?_⟩
  · obtain ⟨d, hd, rfl⟩ := mem_nth hx
    rw [pbG_len.1] at hd
    obtain ⟨i, k, hi, hk, e⟩ := pbNs_at ok (pth_mem hd)
    rw [pbG_nth hd, e, pbNode]
    exact ok.F.ga.kinds _ (nth_mem hi)
  · obtain ⟨d, hd, rfl⟩ := mem_eth he
    rw [pbG_len.2] at hd
    obtain ⟨i, k, hi, hk, h3, e⟩ := mem_pbP.1 (pth_mem (show d < (pbP s.F.edges s.G.edges).length from hd))
    have e : pth (pbEs s) d = ((i : Int), (k : Int)) := e
    rw [ok.F.le] at hi
    rw [ok.G.le] at hk
    obtain ⟨m1, m2⟩ := pb_ends ok hi hk h3
    obtain ⟨t1, t2, _⟩ := ok.F.ga.edges _ (eth_mem hi)
    have a1 := idxP_pos.2 m1
    have a2 := idxP_lt m1
    have a3 := idxP_pos.2 m2
    have a4 := idxP_lt m2
    rw [pbG_eth hd, e, pbEdge, pbG_len.1]
    exact ⟨t1, t2, a1, a2, a3, a4⟩
theorem pbDown_hom {s : Co} (ok : CoOk s) : Hom (pbG s) s.B (pbDown s) := by
  refine ⟨by rw [pbG_len.1]; exact fstL_len, by rw [pbG_len.2]; exact fstL_len, fun x hx => ?_, fun x hx => ?_, fun i hi => ?_, fun i hi => ?_⟩
  · obtain ⟨q, hq, rfl⟩ := List.mem_map.1 hx
    obtain ⟨i, k, hi, hk, rfl⟩ := pbNs_at ok hq
    exact ⟨by simp, by simpa using hi⟩
  · obtain ⟨q, hq, rfl⟩ := List.mem_map.1 hx
    obtain ⟨i, k, hi, hk, rfl⟩ := pbEs_at ok hq
    exact ⟨by simp, by simpa using hi⟩
  · rw [pbG_len.1] at hi
    rw [pbG_nth hi, pbNode, fn, pbDown, nth_fst hi]
  · rw [pbG_len.2] at hi
    obtain ⟨a, b, ha, hb, h3, e⟩ := mem_pbP.1 (pth_mem (show i < (pbP s.F.edges s.G.edges).length from hi))
    have e : pth (pbEs s) i = ((a : Int), (b : Int)) := e
    rw [ok.F.le] at ha
    rw [ok.G.le] at hb
    obtain ⟨m1, m2⟩ := pb_ends ok ha hb h3
    have a1 := idxP_pos.2 m1
    have a2 := idxP_lt m1
    have a3 := idxP_pos.2 m2
    have a4 := idxP_lt m2
    have q1 := idxP_get m1
    have q2 := idxP_get m2
    rw [pbG_eth hi, e, pbEdge, fn, pbDown, nth_fst hi, e]
    simp only [Int.toNat_natCast]
    rw [nth_fst (by omega), nth_fst (by omega), q1, q2]
    refine ⟨?_, ?_, ?_⟩ <;> first | rfl | trivial
theorem pbUpp_hom {s : Co} (ok : CoOk s) : Hom (pbG s) s.C (pbUpp s) := by
  refine ⟨by rw [pbG_len.1]; exact sndL_len, by rw [pbG_len.2]; exact sndL_len, fun x hx => ?_, fun x hx => ?_, fun i hi => ?_, fun i hi => ?_⟩
  · obtain ⟨q, hq, rfl⟩ := List.mem_map.1 hx
    obtain ⟨i, k, hi, hk, rfl⟩ := pbNs_at ok hq
    exact ⟨by simp, by simpa using hk⟩
  · obtain ⟨q, hq, rfl⟩ := List.mem_map.1 hx
    obtain ⟨i, k, hi, hk, rfl⟩ := pbEs_at ok hq
    exact ⟨by simp, by simpa using hk⟩
  · rw [pbG_len.1] at hi
    obtain ⟨a, b, ha, hb, h3, e⟩ := mem_pbP.1 (pth_mem (show i < (pbP s.F.nodes s.G.nodes).length from hi))
    have e : pth (pbNs s) i = ((a : Int), (b : Int)) := e
    rw [ok.F.ln] at ha
    rw [ok.G.ln] at hb
    have k1 := (ok.F.n a ha).2.2
    have k2 := (ok.G.n b hb).2.2
    rw [pbG_nth hi, pbNode, fn, pbUpp, nth_snd hi, e]
    simp only [Int.toNat_natCast]
    rw [← k1, ← k2, h3]
  · rw [pbG_len.2] at hi
    obtain ⟨a, b, ha, hb, h3, e⟩ := mem_pbP.1 (pth_mem (show i < (pbP s.F.edges s.G.edges).length from hi))
    have e : pth (pbEs s) i = ((a : Int), (b : Int)) := e
    rw [ok.F.le] at ha
    rw [ok.G.le] at hb
    obtain ⟨m1, m2⟩ := pb_ends ok ha hb h3
    have a1 := idxP_pos.2 m1
    have a2 := idxP_lt m1
    have a3 := idxP_pos.2 m2
    have a4 := idxP_lt m2
    have q1 := idxP_get m1
    have q2 := idxP_get m2
    have k1 := (ok.F.e a ha).2.2.1
    have k2 := (ok.G.e b hb).2.2.1
    rw [h3] at k1
    rw [pbG_eth hi, e, pbEdge, fn, pbUpp, nth_snd hi, e]
    simp only [Int.toNat_natCast]
    rw [nth_snd (by omega), nth_snd (by omega), q1, q2, k1, k2]
    refine ⟨?_, ?_, ?_⟩ <;> first | rfl | trivial

/-! ### What mediates -/
structure Cone' (s : Co) (a : Gr) (h k : Pa) : Prop where
  e : pbErr s = 0
  ok : CoOk s
  mp : MorOk a s.B h
  mq : MorOk a s.C k
  cn : ∀ i, i < a.nodes.length → fn s.F.nodes (fn h.nodes i) = fn s.G.nodes (fn k.nodes i)
  ce : ∀ i, i < a.edges.length → fn s.F.edges (fn h.edges i) = fn s.G.edges (fn k.edges i)
theorem med_cone {s : Co} {a : Gr} {h k : Pa} (e : medE s a h k = 0) : Cone' s a h k := by
  obtain ⟨h1, h2, h3, h5⟩ := medE_ok e
  have ok := (pbErr_few h1).1
  have m1 := mor_ok h2
  have m2 := mor_ok h3
  have l1 := m1.ln
  have l2 := m1.le
  have l3 := m2.ln
  have l4 := m2.le
  have h6 := sameP_iff.1 h5
  injection h6 with h6 h7
  exact ⟨h1, ok, m1, m2, fun i hi => same_thru h6 (by omega) (by omega), fun i hi => same_thru h7 (by omega) (by omega)⟩
theorem meet_nth {l : List (Int × Int)} {h k : List Int} {n i : Nat} (hi : i < n) : nth (meetL l h k n) i = idxP l (nth h i, nth k i) := by
  rw [nth_eq (by rw [meetL_len]; exact hi)]; simp [meetL]
theorem med_memN {s : Co} {a : Gr} {h k : Pa} (c : Cone' s a h k) {i : Nat} (hi : i < a.nodes.length) : (nth h.nodes i, nth k.nodes i) ∈ pbNs s := by
  obtain ⟨e1, b1⟩ := fn_at c.mp.rn (show i < h.nodes.length by rw [c.mp.ln]; exact hi)
  obtain ⟨e2, b2⟩ := fn_at c.mq.rn (show i < k.nodes.length by rw [c.mq.ln]; exact hi)
  have l1 := c.ok.F.ln
  have l2 := c.ok.G.ln
  refine mem_pbP.2 ⟨fn h.nodes i, fn k.nodes i, by omega, by omega, ?_, by rw [e1, e2]⟩
  rw [(fn_at c.ok.F.rn (by omega)).1, (fn_at c.ok.G.rn (by omega)).1, c.cn i hi]
theorem med_memE {s : Co} {a : Gr} {h k : Pa} (c : Cone' s a h k) {i : Nat} (hi : i < a.edges.length) : (nth h.edges i, nth k.edges i) ∈ pbEs s := by
  obtain ⟨e1, b1⟩ := fn_at c.mp.re (show i < h.edges.length by rw [c.mp.le]; exact hi)
  obtain ⟨e2, b2⟩ := fn_at c.mq.re (show i < k.edges.length by rw [c.mq.le]; exact hi)
  have l1 := c.ok.F.le
  have l2 := c.ok.G.le
  refine mem_pbP.2 ⟨fn h.edges i, fn k.edges i, by omega, by omega, ?_, by rw [e1, e2]⟩
  rw [(fn_at c.ok.F.re (by omega)).1, (fn_at c.ok.G.re (by omega)).1, c.ce i hi]
theorem med_n {s : Co} {a : Gr} {h k : Pa} (c : Cone' s a h k) {i : Nat} (hi : i < a.nodes.length) :
    nth (medC s h k).nodes i = idxP (pbNs s) (nth h.nodes i, nth k.nodes i) ∧ nth (pbDown s).nodes (fn (medC s h k).nodes i) = nth h.nodes i ∧ nth (pbUpp s).nodes (fn (medC s h k).nodes i) = nth k.nodes i := by
  have hm := med_memN c hi
  have h1 := idxP_lt hm
  have h0 := idxP_pos.2 hm
  have h2 := idxP_get hm
  have e : nth (medC s h k).nodes i = idxP (pbNs s) (nth h.nodes i, nth k.nodes i) := meet_nth (by rw [c.mp.ln]; exact hi)
  refine ⟨e, ?_, ?_⟩
  · rw [fn, e, pbDown, nth_fst (by omega), h2]
  · rw [fn, e, pbUpp, nth_snd (by omega), h2]
theorem med_e {s : Co} {a : Gr} {h k : Pa} (c : Cone' s a h k) {i : Nat} (hi : i < a.edges.length) :
    nth (medC s h k).edges i = idxP (pbEs s) (nth h.edges i, nth k.edges i) ∧ nth (pbDown s).edges (fn (medC s h k).edges i) = nth h.edges i ∧ nth (pbUpp s).edges (fn (medC s h k).edges i) = nth k.edges i := by
  have hm := med_memE c hi
  have h1 := idxP_lt hm
  have h0 := idxP_pos.2 hm
  have h2 := idxP_get hm
  have e : nth (medC s h k).edges i = idxP (pbEs s) (nth h.edges i, nth k.edges i) := meet_nth (by rw [c.mp.le]; exact hi)
  refine ⟨e, ?_, ?_⟩
  · rw [fn, e, pbDown, nth_fst (by omega), h2]
  · rw [fn, e, pbUpp, nth_snd (by omega), h2]
theorem med_hom {s : Co} {a : Gr} {h k : Pa} (c : Cone' s a h k) : Hom a (pbG s) (medC s h k) := by
  have l1 : (medC s h k).nodes.length = a.nodes.length := by simp only [medC, meetL_len, c.mp.ln]
  have l2 : (medC s h k).edges.length = a.edges.length := by simp only [medC, meetL_len, c.mp.le]
  have pd := pbDown_hom c.ok
  refine ⟨l1, l2, fun x hx => ?_, fun x hx => ?_, fun i hi => ?_, fun i hi => ?_⟩
  · obtain ⟨i, hi, rfl⟩ := mem_nth hx
    rw [l1] at hi
    have hm := med_memN c hi
    have h1 := idxP_lt hm
    have h0 := idxP_pos.2 hm
    rw [(med_n c hi).1, pbG_len.1]
    exact ⟨h0, h1⟩
  · obtain ⟨i, hi, rfl⟩ := mem_nth hx
    rw [l2] at hi
    have hm := med_memE c hi
    have h1 := idxP_lt hm
    have h0 := idxP_pos.2 hm
    rw [(med_e c hi).1, pbG_len.2]
    exact ⟨h0, h1⟩
  · have hm := med_memN c hi
    have h1 := idxP_lt hm
    have h0 := idxP_pos.2 hm
    have h2 := idxP_get hm
    rw [fn, (med_n c hi).1, pbG_nth (by omega), h2, pbNode]
    exact (c.mp.n i hi).2.2
  · have hm := med_memE c hi
    have h1 := idxP_lt hm
    have h0 := idxP_pos.2 hm
    have h2 := idxP_get hm
    obtain ⟨_, _, g1, g2, g3, g4⟩ := c.mp.ga.edges _ (eth_mem hi)
    obtain ⟨_, _, t1, u1, v1⟩ := c.mp.e i hi
    obtain ⟨_, _, t2, u2, v2⟩ := c.mq.e i hi
    rw [fn, (med_e c hi).1, pbG_eth (by omega), h2, pbEdge, (med_n c (show (eth a.edges i).f.toNat < a.nodes.length by omega)).1, (med_n c (show (eth a.edges i).g.toNat < a.nodes.length by omega)).1]
    simp only [← t1, ← u1, ← v1, ← u2, ← v2]
    refine ⟨?_, ?_, ?_⟩ <;> first | rfl | trivial

/-- A cone is accepted exactly if it is a pullback. -/
theorem pbChk_iff {s : Co} {a : Gr} {h k : Pa} (e : medE s a h k = 0) : pbChk s a h k = true ↔ IsPB s a h k := by
  have c := med_cone e
  have pb := pb_std c.ok
  have hm := med_hom c
  have hi := pbDown_hom c.ok
  have hj := pbUpp_hom c.ok
  have em := mor_zero (hm.ok c.mp.ga (pbG_ok c.e))
  have z1 : ∀ i, i < a.nodes.length → fn (pbDown s).nodes (fn (medC s h k).nodes i) = fn h.nodes i := fun i hi => by rw [fn, (med_n c hi).2.1]; rfl
  have z2 : ∀ i, i < a.nodes.length → fn (pbUpp s).nodes (fn (medC s h k).nodes i) = fn k.nodes i := fun i hi => by rw [fn, (med_n c hi).2.2]; rfl
  have z3 : ∀ i, i < a.edges.length → fn (pbDown s).edges (fn (medC s h k).edges i) = fn h.edges i := fun i hi => by rw [fn, (med_e c hi).2.1]; rfl
  have z4 : ∀ i, i < a.edges.length → fn (pbUpp s).edges (fn (medC s h k).edges i) = fn k.edges i := fun i hi => by rw [fn, (med_e c hi).2.2]; rfl
  have key : pbChk s a h k = true ↔ (((medC s h k).nodes.Nodup ∧ (medC s h k).edges.Nodup) ∧ (covB (medC s h k).nodes (pbG s).nodes.length = true ∧ covB (medC s h k).edges (pbG s).edges.length = true)) := by
    simp [pbChk, e, injB, surjB, em]
  rw [key, nodup_fn hm.ln hm.pn, nodup_fn hm.le hm.pe, cov_fn hm.ln hm.pn, cov_fn hm.le hm.pe]
  constructor
  · rintro ⟨⟨a1, a2⟩, b1, b2⟩
    exact ⟨pb_of_iso pb.1 hm.mn z1 z2 a1 b1, pb_of_iso pb.2 hm.me z3 z4 a2 b2⟩
  · rintro ⟨p1, p2⟩
    obtain ⟨a1, b1⟩ := pb_iso p1 pb.1 hi.mn hj.mn hm.mn z1 z2
    obtain ⟨a2, b2⟩ := pb_iso p2 pb.2 hi.me hj.me hm.me z3 z4
    exact ⟨⟨a1, a2⟩, b1, b2⟩
end Go.Proofs.Ythapbbpdcjmmfaa

/- The kind of a valid square that commutes. No program in sight. -/
namespace Go.Proofs.Ythapbbpdcjmmfaa
open Abs Po
set_option linter.unusedSimpArgs false
set_option linter.unusedVariables false

theorem sq_parts {s : Sq} (h1 : sqErr s = 0) : morErr s.A s.B s.F = 0 ∧ morErr s.A s.C s.G = 0 ∧ morErr s.B s.D s.H = 0 ∧ morErr s.C s.D s.K = 0 := by
  have ok := sqErr_ok h1
  exact ⟨mor_zero ok.F, mor_zero ok.G, mor_zero ok.H, mor_zero ok.K⟩
theorem sq_zero {s : Sq} (F : MorOk s.A s.B s.F) (G : MorOk s.A s.C s.G) (H : MorOk s.B s.D s.H) (K : MorOk s.C s.D s.K) : sqErr s = 0 := by
  simp [sqErr, mor_zero F, mor_zero G, mor_zero H, mor_zero K]
theorem down_err {s : Sq} (h1 : sqErr s = 0) : spErr (downS s) = 0 := by
  obtain ⟨a, b, _, _⟩ := sq_parts h1
  show (if morErr s.A s.B s.F = 0 then morErr s.A s.C s.G else morErr s.A s.B s.F) = 0
  rw [if_pos a, b]
theorem up_err {s : Sq} (h1 : sqErr s = 0) : coErr (upS s) = 0 := by
  obtain ⟨_, _, a, b⟩ := sq_parts h1
  show (if morErr s.B s.D s.H = 0 then morErr s.C s.D s.K else morErr s.B s.D s.H) = 0
  rw [if_pos a, b]
theorem pm_zero {s : Sq} (h1 : sqErr s = 0) (h2 : commB s = true) (h3 : unErr s.B s.C = 0) : pmE (downS s) s.D s.H s.K = 0 := by
  obtain ⟨a, b, c, d⟩ := sq_parts h1
  rw [pmE, if_pos (down_err h1), if_pos (show morErr (downS s).B s.D s.H = 0 from c), if_pos (show morErr (downS s).C s.D s.K = 0 from d), if_pos (show unErr (downS s).B (downS s).C = 0 from h3)]
  exact if_pos h2
theorem med_zero {s : Sq} (h1 : sqErr s = 0) (h2 : commB s = true) (h3 : pbErr (upS s) = 0) : medE (upS s) s.A s.F s.G = 0 := by
  obtain ⟨a, b, c, d⟩ := sq_parts h1
  rw [medE, if_pos h3, if_pos (show morErr s.A (upS s).B s.F = 0 from a), if_pos (show morErr s.A (upS s).C s.G = 0 from b)]
  exact if_pos h2
theorem pb_errs {s : Sq} (h1 : sqErr s = 0) : pbErr (upS s) = 0 ∨ pbErr (upS s) = 3 := by
  rw [pbErr, if_pos (up_err h1)]
  split
  · exact .inr rfl
  · exact .inl rfl
theorem un_errs {a b : Gr} (ga : GrOk a) (gb : GrOk b) : unErr a b = 0 ∨ unErr a b = 3 := by
  rw [unErr, if_pos (gErr_of ga), if_pos (gErr_of gb)]
  split
  · exact .inr rfl
  · exact .inl rfl
theorem un_zero {a b : Gr} (ga : GrOk a) (gb : GrOk b) (hn : a.nodes.length + b.nodes.length ≤ 40) (he : a.edges.length + b.edges.length ≤ 80) : unErr a b = 0 := by
  rw [unErr, if_pos (gErr_of ga), if_pos (gErr_of gb), if_neg]
  simp only [unBig]
  omega

/-- Pushout, pullback. -/
def SqPO (s : Sq) : Prop := IsPO (downS s) s.D s.H s.K
def SqPB (s : Sq) : Prop := IsPB (upS s) s.A s.F s.G

open Classical in
theorem kind_is {s : Sq} (h1 : sqErr s = 0) (h2 : commB s = true) (h3 : unErr s.B s.C = 0) :
    kindR s = (0, 3) ∨ kindR s = ((if SqPO s then 1 else 0) + (if SqPB s then 2 else 0), 0) := by
  have e1 : poErr (downS s) = 0 := by rw [poErr, if_pos (down_err h1)]; exact h3
  rcases pb_errs h1 with e | e
  · refine .inr ?_
    have k1 := poChk_iff (pm_zero h1 h2 h3)
    have k2 := pbChk_iff (med_zero h1 h2 e)
    rw [kindR, if_pos h1, if_pos h2, if_pos e1, if_pos e, kindN]
    have c1 : (poChk (downS s) s.D s.H s.K = true) = SqPO s := propext k1
    have c2 : (pbChk (upS s) s.A s.F s.G = true) = SqPB s := propext k2
    congr 1
    congr 1
    · by_cases h : SqPO s
      · rw [if_pos (k1.2 h), if_pos h]
      · rw [if_neg (fun x => h (k1.1 x)), if_neg h]
    · by_cases h : SqPB s
      · rw [if_pos (k2.2 h), if_pos h]
      · rw [if_neg (fun x => h (k2.1 x)), if_neg h]
  · refine .inl ?_
    rw [kindR, if_pos h1, if_pos h2, if_pos e1, if_neg (by omega), e]
theorem kind_too {s : Sq} (h1 : sqErr s = 0) (h2 : commB s = true) (h3 : unErr s.B s.C = 3) : kindR s = (0, 3) := by
  have e1 : poErr (downS s) = 3 := by rw [poErr, if_pos (down_err h1)]; exact h3
  rw [kindR, if_pos h1, if_pos h2, if_neg (by omega), e1]

theorem comm_of {s : Sq} (F : MorOk s.A s.B s.F) (G : MorOk s.A s.C s.G) (H : MorOk s.B s.D s.H) (K : MorOk s.C s.D s.K)
    (cn : ∀ i, i < s.A.nodes.length → fn s.H.nodes (fn s.F.nodes i) = fn s.K.nodes (fn s.G.nodes i)) (ce : ∀ i, i < s.A.edges.length → fn s.H.edges (fn s.F.edges i) = fn s.K.edges (fn s.G.edges i)) : commB s = true := by
  have l1 := F.ln
  have l2 := G.ln
  have l3 := F.le
  have l4 := G.le
  refine sameP_iff.2 ?_
  have key : ∀ {m : Nat} {f g h k : List Int} {nB nC nD : Nat}, f.length = m → g.length = m → placesIn f nB → placesIn g nC → h.length = nB → k.length = nC → placesIn h nD → placesIn k nD →
      (∀ i, i < m → fn h (fn f i) = fn k (fn g i)) → thru f h = thru g k := fun {m f g h k nB nC nD} e1 e2 pf pg e3 e4 ph pk hc => (thru_eq e1 e2).2 fun i hi => by
    have b1 := (fn_at pf (show i < f.length by omega)).2
    have b2 := (fn_at pg (show i < g.length by omega)).2
    have := hc i hi
    have c1 := (fn_at ph (show fn f i < h.length by omega)).1
    have c2 := (fn_at pk (show fn g i < k.length by omega)).1
    show nth h (fn f i) = nth k (fn g i)
    rw [c1, c2, this]
  have a1 := key F.ln G.ln F.rn G.rn H.ln K.ln H.rn K.rn cn
  have a2 := key F.le G.le F.re G.re H.le K.le H.re K.re ce
  simp only [thenP, a1, a2]
theorem comm_at {s : Sq} (h1 : sqErr s = 0) (h2 : commB s = true) :
    (∀ i, i < s.A.nodes.length → fn s.H.nodes (fn s.F.nodes i) = fn s.K.nodes (fn s.G.nodes i)) ∧ (∀ i, i < s.A.edges.length → fn s.H.edges (fn s.F.edges i) = fn s.K.edges (fn s.G.edges i)) := by
  have ok := sqErr_ok h1
  have l1 := ok.F.ln
  have l2 := ok.G.ln
  have l3 := ok.F.le
  have l4 := ok.G.le
  have h6 := sameP_iff.1 h2
  injection h6 with h6 h7
  exact ⟨fun i hi => same_thru h6 (by omega) (by omega), fun i hi => same_thru h7 (by omega) (by omega)⟩
theorem then_ok {a b c : Gr} {m n : Pa} (hm : MorOk a b m) (hn : MorOk b c n) : MorOk a c (thenP m n) := by
  have h := hm.hom
  have k := hn.hom
  refine Hom.ok ⟨by simp only [thenP, thru_len]; exact h.ln, by simp only [thenP, thru_len]; exact h.le, thru_in k.pn (by rw [k.ln]; exact h.pn), thru_in k.pe (by rw [k.le]; exact h.pe), fun i hi => ?_, fun i hi => ?_⟩ hm.ga hn.gb
  · have b1 := (fn_at h.pn (show i < m.nodes.length by rw [h.ln]; exact hi)).2
    simp only [thenP]
    rw [fn_thru (by rw [h.ln]; exact hi), k.kn _ b1, h.kn i hi]
  · have b1 := (fn_at h.pe (show i < m.edges.length by rw [h.le]; exact hi)).2
    simp only [thenP]
    obtain ⟨x1, x2, x3⟩ := h.ke i hi
    obtain ⟨y1, y2, y3⟩ := k.ke _ b1
    obtain ⟨_, _, g1, g2, g3, g4⟩ := hm.ga.edges _ (eth_mem hi)
    have l := h.ln
    rw [fn_thru (by rw [h.le]; exact hi), y1, y2, y3, x1, x2, x3, thru_nth (by omega), thru_nth (by omega)]
    exact ⟨rfl, rfl, rfl⟩
end Go.Proofs.Ythapbbpdcjmmfaa

/- Images of graphs and grown graphs: their morphisms; spans of descriptions; squares of standard pushouts. No program in sight. -/
namespace Go.Proofs.Ythapbbpdcjmmfaa
open Abs Po
set_option linter.unusedSimpArgs false
set_option linter.unusedVariables false

theorem imT_flat {g : Gr} {c : List Int} : Flat (imT g c) := imP_flat (by omega)
theorem imT_len {g : Gr} {c : List Int} : (imT g c).length = g.nodes.length := imP_len
theorem imT_con {g : Gr} {c : List Int} : ∀ i, i < g.nodes.length → nth g.nodes (nth (imT g c) i).toNat = nth g.nodes i := fun i hi => genL_inv (f := nth g.nodes) (imL_in (by omega)) imL_same hi
theorem imQ_nth {g : Gr} {c : List Int} {i : Nat} (hi : i < g.nodes.length) : ∃ r : Nat, nth (imQ g c) i = (clsN (imT g c) r : Nat) ∧ r < g.nodes.length ∧ nth (imT g c) r = r ∧ nth g.nodes r = nth g.nodes i := by
  obtain ⟨r, h1, h2, h3⟩ := root_of imT_flat imT_len hi
  have h4 := imT_con (g := g) (c := c) i hi
  rw [h1, Int.toNat_natCast] at h4
  refine ⟨r, ?_, h2, h3, h4⟩
  rw [imQ, quotL_nth (by rw [imT_len]; exact hi), h1, Int.toNat_natCast]
theorem imG_nlen {g : Gr} {c : List Int} : (imG g c).nodes.length = clsN (imT g c) g.nodes.length := clsF_len
theorem imQ_in {g : Gr} {c : List Int} : placesIn (imQ g c) (imG g c).nodes.length := by
  rw [imG_nlen]
  exact quotL_in imT_flat imT_len
theorem imQ_len {g : Gr} {c : List Int} : (imQ g c).length = g.nodes.length := by rw [imQ, quotL_len, imT_len]
theorem imAt_ok {E : List Ed} {x : Ed} {c : List Int} {i : Nat} : ∀ k, 0 ≤ imAt E x c i k → eth E (imAt E x c i k).toNat = x
  | 0, h => absurd h (by simp [imAt])
  | k + 1, h => by
    unfold imAt at h ⊢
    split
    · rename_i h1
      rw [Int.toNat_natCast]
      exact h1.1
    · rename_i h1
      rw [if_neg h1] at h
      exact imAt_ok k h
/-- Where the edges go. -/
theorem imS_at {g : Gr} {c q : List Int} : ∀ k i, i < k → 0 ≤ nth (imS g c q k).2 i ∧ nth (imS g c q k).2 i < (imS g c q k).1.length ∧ eth (imS g c q k).1 (nth (imS g c q k).2 i).toNat = imX g q i
  | 0, i, h => absurd h (by omega)
  | k + 1, i, h => by
    have ih := imS_at (g := g) (c := c) (q := q) k
    have hl := (imS_len (g := g) (c := c) (q := q) k).2
    have ha := imAt_lt (E := (imS g c q k).1) (x := imX g q k) (c := c) (i := k) (imS g c q k).1.length
    have hok := imAt_ok (E := (imS g c q k).1) (x := imX g q k) (c := c) (i := k) (imS g c q k).1.length
    unfold imS
    split
    · by_cases e : i = k
      · subst e
        have e1 : nth ((imS g c q i).2 ++ [((imS g c q i).1.length : Int)]) i = (imS g c q i).1.length := by
          rw [nth_eq (by simp; omega), List.getElem_append_right (by omega)]
          simp
        simp only [e1, Int.toNat_natCast]
        refine ⟨by omega, by simp only [List.length_append, List.length_singleton]; omega, ?_⟩
        rw [eth_eq (by simp), List.getElem_append_right (Nat.le_refl _)]
        simp
      · obtain ⟨h1, h2, h3⟩ := ih i (by omega)
        have e1 : nth ((imS g c q k).2 ++ [((imS g c q k).1.length : Int)]) i = nth (imS g c q k).2 i := nth_appL (by omega)
        simp only [e1]
        refine ⟨h1, by simp; omega, ?_⟩
        rw [eth_appL (by omega)]
        exact h3
    · rename_i hn
      by_cases e : i = k
      · subst e
        have e1 : nth ((imS g c q i).2 ++ [imAt (imS g c q i).1 (imX g q i) c i (imS g c q i).1.length]) i = imAt (imS g c q i).1 (imX g q i) c i (imS g c q i).1.length := by
          rw [nth_eq (by simp; omega), List.getElem_append_right (by omega)]
          simp
        simp only [e1]
        exact ⟨by omega, ha.2, hok (by omega)⟩
      · obtain ⟨h1, h2, h3⟩ := ih i (by omega)
        have e1 : nth ((imS g c q k).2 ++ [imAt (imS g c q k).1 (imX g q k) c k (imS g c q k).1.length]) i = nth (imS g c q k).2 i := nth_appL (by omega)
        simp only [e1]
        exact ⟨h1, h2, h3⟩
theorem imS_mem {g : Gr} {c q : List Int} : ∀ k, ∀ e ∈ (imS g c q k).1, ∃ i, i < k ∧ e = imX g q i
  | 0, e, h => by simp [imS] at h
  | k + 1, e, h => by
    unfold imS at h
    split at h
    · rcases List.mem_append.1 h with h | h
      · obtain ⟨i, hi, he⟩ := imS_mem k e h
        exact ⟨i, by omega, he⟩
      · simp at h
        exact ⟨k, by omega, h⟩
    · obtain ⟨i, hi, he⟩ := imS_mem k e h
      exact ⟨i, by omega, he⟩
theorem imG_ok {g : Gr} {c : List Int} (gg : GrOk g) : GrOk (imG g c) := by
  have hf := imG_few (g := g) (c := c)
  have b1 := gg.n
  have b2 := gg.e
  refine ⟨by omega, by omega, fun x hx => ?_, fun e he => ?_⟩
  · obtain ⟨j, hj, hx⟩ := mem_collect.1 hx
    unfold clsF at hx
    split at hx
    · injection hx with hx
      rw [← hx]
      exact gg.kinds _ (nth_mem hj)
    · cases hx
  · obtain ⟨i, hi, rfl⟩ := imS_mem _ e he
    obtain ⟨t1, t2, g1, g2, g3, g4⟩ := gg.edges _ (eth_mem hi)
    have l := imQ_len (g := g) (c := c)
    have p1 := imQ_in _ (nth_mem (l := imQ g c) (k := (eth g.edges i).f.toNat) (by omega))
    have p2 := imQ_in _ (nth_mem (l := imQ g c) (k := (eth g.edges i).g.toNat) (by omega))
    exact ⟨t1, t2, p1.1, p1.2, p2.1, p2.2⟩
theorem im_mor {g : Gr} {c : List Int} (gg : GrOk g) : MorOk g (imG g c) (imM g c) := by
  refine Hom.ok ⟨imQ_len, (imS_len _).2, imQ_in, fun x hx => ?_, fun i hi => ?_, fun i hi => ?_⟩ gg (imG_ok gg)
  · obtain ⟨i, hi, rfl⟩ := mem_nth hx
    have hi : i < (imS g c (imQ g c) g.edges.length).2.length := hi
    rw [(imS_len _).2] at hi
    obtain ⟨h1, h2, _⟩ := imS_at _ i hi
    exact ⟨h1, h2⟩
  · obtain ⟨r, h1, h2, h3, h4⟩ := imQ_nth (c := c) hi
    have := clsF_get (f := nth g.nodes) h3 (k := g.nodes.length) h2
    have e : fn (imM g c).nodes i = clsN (imT g c) r := by
      show fn (imQ g c) i = _
      rw [fn, h1]; rfl
    rw [e, ← h4]
    show ((collect (clsF (imT g c) (nth g.nodes)) g.nodes.length).getD (clsN (imT g c) r) 0) = _
    rw [List.getD, this]
    rfl
  · obtain ⟨h1, h2, h3⟩ := imS_at (g := g) (c := c) (q := imQ g c) _ i hi
    have e : eth (imG g c).edges (fn (imM g c).edges i) = imX g (imQ g c) i := h3
    rw [e]
    exact ⟨rfl, rfl, rfl⟩
theorem id_mor {g : Gr} (gg : GrOk g) : MorOk g g (idP g) := by
  refine Hom.ok ⟨idL_len, idL_len, fun x hx => ?_, fun x hx => ?_, fun i hi => ?_, fun i hi => ?_⟩ gg gg
  · obtain ⟨i, hi, rfl⟩ := mem_nth hx
    have hi : i < (idL g.nodes.length).length := hi
    rw [idL_len] at hi
    have e : nth (idP g).nodes i = i := idL_nth hi
    rw [e]
    omega
  · obtain ⟨i, hi, rfl⟩ := mem_nth hx
    have hi : i < (idL g.edges.length).length := hi
    rw [idL_len] at hi
    have e : nth (idP g).edges i = i := idL_nth hi
    rw [e]
    omega
  · have e : fn (idP g).nodes i = i := by
      show fn (idL g.nodes.length) i = i
      rw [fn, idL_nth hi]; rfl
    rw [e]
  · have e : fn (idP g).edges i = i := by
      show fn (idL g.edges.length) i = i
      rw [fn, idL_nth hi]; rfl
    obtain ⟨_, _, g1, g2, g3, g4⟩ := gg.edges _ (eth_mem hi)
    rw [e]
    have e1 : nth (idP g).nodes (eth g.edges i).f.toNat = (eth g.edges i).f := by
      show nth (idL g.nodes.length) _ = _
      rw [idL_nth (by omega)]; omega
    have e2 : nth (idP g).nodes (eth g.edges i).g.toNat = (eth g.edges i).g := by
      show nth (idL g.nodes.length) _ = _
      rw [idL_nth (by omega)]; omega
    rw [e1, e2]
    exact ⟨rfl, rfl, rfl⟩
theorem gr_base {g : Gr} {l : List Nat} (gg : GrOk g) : MorOk g (grG g l) (grM g l) := by
  unfold grG grM
  split
  · exact im_mor gg
  · exact id_mor gg

/-- More nodes and edges. -/
theorem more_mor {a b : Gr} {m : Pa} {x : List Int} {y : List Ed} (h : MorOk a b m) (gb : GrOk ⟨b.nodes ++ x, b.edges ++ y⟩) : MorOk a ⟨b.nodes ++ x, b.edges ++ y⟩ m := by
  have hh := h.hom
  refine Hom.ok ⟨hh.ln, hh.le, fun z hz => ?_, fun z hz => ?_, fun i hi => ?_, fun i hi => ?_⟩ h.ga gb
  · have := hh.pn z hz
    simp only [List.length_append]
    omega
  · have := hh.pe z hz
    simp only [List.length_append]
    omega
  · have := hh.mn i hi
    show nth (b.nodes ++ x) _ = _
    rw [nth_appL this]
    exact hh.kn i hi
  · have := hh.me i hi
    show (eth (b.edges ++ y) _).t = _ ∧ (eth (b.edges ++ y) _).f = _ ∧ (eth (b.edges ++ y) _).g = _
    rw [eth_appL this]
    exact hh.ke i hi
theorem grow_few {g : Gr} {l : List Nat} : (growG g l).nodes.length ≤ g.nodes.length + 3 ∧ (growG g l).edges.length ≤ g.edges.length + 4 := by
  have hf := grG_few (g := g) (l := l)
  have h1 : (growG g l).nodes.length ≤ (grG g l).nodes.length + gnc l := grN_len
  have h2 : (growG g l).edges.length = (grG g l).edges.length + gec g l := grE_len
  have h3 : gnc l ≤ 3 := by simp only [gnc]; omega
  have h4 : gec g l ≤ 4 := by
    simp only [gec]
    split <;> omega
  omega
theorem grow_ok {g : Gr} {l : List Nat} (gg : GrOk g) (hn : g.nodes.length ≤ 37) (he : g.edges.length ≤ 76) : GrOk (growG g l) := by
  have hb := (gr_base (l := l) gg).gb
  have hf := grow_few (g := g) (l := l)
  have hl : (grG g l).nodes.length ≤ (grn g l).length := by
    simp only [grn, grN, List.length_append]
    omega
  refine ⟨by omega, by omega, fun x hx => ?_, fun e h => ?_⟩
  · have hx : x ∈ (grG g l).nodes ++ collect (gnF l) (gnc l) := hx
    rcases List.mem_append.1 hx with hx | hx
    · exact hb.kinds x hx
    · obtain ⟨j, _, hj⟩ := mem_collect.1 hx
      unfold gnF at hj
      split at hj
      · injection hj with hj
        omega
      · cases hj
  · have h : e ∈ (grG g l).edges ++ (List.range (gec g l)).map (geX l (grn g l).length) := h
    rcases List.mem_append.1 h with h | h
    · obtain ⟨t1, t2, g1, g2, g3, g4⟩ := hb.edges e h
      have e1 : (growG g l).nodes.length = (grn g l).length := rfl
      exact ⟨t1, t2, g1, by omega, g3, by omega⟩
    · obtain ⟨j, hj, rfl⟩ := List.mem_map.1 h
      have hj := List.mem_range.1 hj
      have z : (grn g l).length ≠ 0 := by
        intro z
        simp [gec, z] at hj
      have z1 := Nat.mod_lt (byth l (j + 4) / 2) (Nat.pos_of_ne_zero z)
      have z2 := Nat.mod_lt (byth l (j + 4) / 16) (Nat.pos_of_ne_zero z)
      have e1 : (growG g l).nodes.length = (grn g l).length := rfl
      rw [e1]
      simp only [geX]
      omega
theorem grow_mor {g : Gr} {l : List Nat} (gg : GrOk g) (hn : g.nodes.length ≤ 37) (he : g.edges.length ≤ 76) : MorOk g (growG g l) (grM g l) :=
  more_mor (gr_base gg) (grow_ok gg hn he)

theorem mdS_ok {d : Dr} {b c : List Nat} : SpOk (mdS d b c) := by
  have hf := mdG_few (d := d)
  have h1 := grow_mor (l := b) (mdG_ok (d := d)) (by omega) (by omega)
  have h2 := grow_mor (l := c) (mdG_ok (d := d)) (by omega) (by omega)
  exact ⟨h1, h2⟩
theorem mdS_few {d : Dr} {b c : List Nat} : (mdS d b c).B.nodes.length ≤ 11 ∧ (mdS d b c).B.edges.length ≤ 14 ∧ (mdS d b c).C.nodes.length ≤ 11 ∧ (mdS d b c).C.edges.length ≤ 14 := by
  have hf := mdG_few (d := d)
  have h1 := grow_few (g := mdG d) (l := b)
  have h2 := grow_few (g := mdG d) (l := c)
  simp only [mdS]
  omega

theorem mdS_un' {d : Dr} {b c : List Nat} : unErr (mdS d b c).B (mdS d b c).C = 0 := by
  have hf := mdS_few (d := d) (b := b) (c := c)
  exact un_zero mdS_ok.F.gb mdS_ok.G.gb (by omega) (by omega)

/-! ### The square of a standard pushout -/
theorem gl_is {s : Sp} (ok : SpOk s) (hu : unErr s.B s.C = 0) : glS s = ⟨s.A, s.B, s.C, poG s, s.F, s.G, poI s, poJ s⟩ := by
  have e1 : poErr s = 0 := by
    rw [poErr, if_pos]
    · exact hu
    · rw [spErr, if_pos (mor_zero ok.F)]
      exact mor_zero ok.G
  simp [glS, poR, e1]
theorem gl_sq {s : Sp} (ok : SpOk s) (hu : unErr s.B s.C = 0) : sqErr (glS s) = 0 ∧ commB (glS s) = true ∧ SqPO (glS s) := by
  rw [gl_is ok hu]
  have g := poG_ok ok hu
  have po := po_std ok
  have hH := (poI_hom ok).ok ok.F.gb g
  have hK := (poJ_hom ok).ok ok.G.gb g
  exact ⟨sq_zero ok.F ok.G hH hK, comm_of ok.F ok.G hH hK po.1.comm po.2.comm, po⟩
theorem po_pb {s : Sq} (h1 : sqErr s = 0) (po : SqPO s) (hi : injB s.A s.B s.F = true ∨ injB s.A s.C s.G = true) : SqPB s := by
  have ok := sqErr_ok h1
  rcases hi with hi | hi
  · simp [injB] at hi
    exact ⟨po_inj po.1 ok.F.hom.mn ((nodup_fn ok.F.ln ok.F.rn).1 hi.1.2), po_inj po.2 ok.F.hom.me ((nodup_fn ok.F.le ok.F.re).1 hi.2)⟩
  · simp [injB] at hi
    exact ⟨(po_inj po.1.symm ok.G.hom.mn ((nodup_fn ok.G.ln ok.G.rn).1 hi.1.2)).symm, (po_inj po.2.symm ok.G.hom.me ((nodup_fn ok.G.le ok.G.re).1 hi.2)).symm⟩
open Classical in
theorem gl_kind {s : Sp} (ok : SpOk s) (hu : unErr s.B s.C = 0) :
    kindR (glS s) = (0, 3) ∨ kindR (glS s) = (3, 0) ∨ kindR (glS s) = (1, 0) ∧ injB s.A s.B s.F = false ∧ injB s.A s.C s.G = false := by
  obtain ⟨h1, h2, h3⟩ := gl_sq ok hu
  rcases kind_is h1 h2 (by rw [gl_is ok hu]; exact hu) with e | e
  · exact .inl e
  · rw [if_pos h3] at e
    by_cases hp : SqPB (glS s)
    · rw [if_pos hp] at e
      exact .inr (.inl e)
    · rw [if_neg hp] at e
      refine .inr (.inr ⟨e, ?_, ?_⟩)
      · cases hi : injB s.A s.B s.F
        · rfl
        · exact absurd (po_pb h1 h3 (.inl hi)) hp
      · cases hi : injB s.A s.C s.G
        · rfl
        · exact absurd (po_pb h1 h3 (.inr hi)) hp
end Go.Proofs.Ythapbbpdcjmmfaa

/- Cases of descriptions: their contract; parts that bits mean are parts. -/
namespace Go.Proofs.Ythapbbpdcjmmfaa
open Abs Po
set_option linter.unusedSimpArgs false
set_option linter.unusedVariables false
attribute [local simp] rn0 rn1 rn2 rn3 rn4 rn5 rn6 rn7 evOp nests Arg.ev St.val St.set St.new sliceOf binInt2 binInt AV.cells rdAt St.live retOf resOf resAll treeOf treeCell treeCells treeTups untree frameOf TV.av TR.av ints edgs prs fillV splice intsOf trees V1.tree bx Gr.v Pa.v opRd opWr opNew opNewR opArgs argsRd argRd Arg.rd AV.refs V1.refs refsL dstL

theorem mask_part {g : Gr} {s : Nat} : PartOk g (maskP g s) := ⟨canon_asc, canon_asc, fun x hx => ⟨(mem_canon.1 hx).1, (mem_canon.1 hx).2.1⟩, fun x hx => ⟨(mem_canon.1 hx).1, (mem_canon.1 hx).2.1⟩⟩
theorem mask_sub {g : Gr} {s : Nat} (go : GrOk g) : subErr g (maskP g s) = 0 := by
  rw [subErr, if_pos (gErr_of go)]
  refine (part_iff mask_part).2 fun k hk => ?_
  obtain ⟨h1, h2, h3⟩ := mem_canon.1 hk
  obtain ⟨i, hi, _, he⟩ := mem_bits.1 h3
  obtain ⟨_, _, q1, q2, q3, q4⟩ := go.edges _ (eth_mem hi)
  rw [he, Int.toNat_natCast]
  rw [he] at h3
  exact ⟨mem_canon.2 ⟨q1, q2, List.mem_append.2 (.inr (endsL_mem.2 ⟨i, hi, h3, .inl rfl⟩))⟩, mem_canon.2 ⟨q3, q4, List.mem_append.2 (.inr (endsL_mem.2 ⟨i, hi, h3, .inr rfl⟩))⟩⟩
theorem mask_tiny {g : Gr} {s : Nat} (go : GrOk g) : tinyP (maskP g s) := by
  have h1 := canon_len (n := g.nodes.length) (a := bitsL s 0 g.nodes.length ++ endsL g (bitsL s g.nodes.length g.edges.length) g.edges.length)
  have h2 := canon_len (n := g.edges.length) (a := bitsL s g.nodes.length g.edges.length)
  have b1 := go.n
  have b2 := go.e
  exact ⟨by simp only [tiny, maskP]; omega, by simp only [tiny, maskP]; omega⟩

/-- The four parts of a case of a description. -/
def dG (d : Dr) (c : List Nat) : Gr := growG (mdG d) c
def dM (d : Dr) (c : List Nat) : Pa := grM (mdG d) c
theorem dMor {d : Dr} {c : List Nat} : MorOk (mdG d) (dG d c) (dM d c) := by
  have hf := mdG_few (d := d)
  exact grow_mor mdG_ok (by omega) (by omega)
theorem dFew {d : Dr} {c : List Nat} : (dG d c).nodes.length ≤ 11 ∧ (dG d c).edges.length ≤ 14 := by
  have hf := mdG_few (d := d)
  have h2 := grow_few (g := mdG d) (l := c)
  simp only [dG]
  omega
theorem dTiny {d : Dr} {c : List Nat} {p : Pa} (hp : tinyP p) : TinyCase (mdG d) (dG d c) p (dM d c) := by
  have hf := mdG_few (d := d)
  have h2 := dFew (d := d) (c := c)
  have m := dMor (d := d) (c := c)
  have l1 := m.ln
  have l2 := m.le
  exact ⟨⟨by simp only [tiny]; omega, by simp only [tiny]; omega⟩, ⟨by simp only [tiny]; omega, by simp only [tiny]; omega⟩, hp, ⟨by simp only [tiny]; omega, by simp only [tiny]; omega⟩⟩
theorem dCase {d : Dr} {c : List Nat} {p : Pa} (hp : subErr (mdG d) p = 0) : caseErr (mdG d) (dG d c) p (dM d c) = 0 := by
  rw [caseErr, if_pos (mor_zero dMor)]
  exact hp

def c_made12 : MFunc := ⟨25, [.cell 6 true 8], .seq (.region [⟨some 3, .box 0 41 (.tmp 0), none⟩, ⟨some 6, .alloc 1 30 [.nil, .nil, .nil, .nil, .nil, .nil, .nil, .nil], none⟩]) (.seq (.region [⟨some 10, .load true 2 (.tmp 3), none⟩, ⟨some 11, .call (.c (.one (.fn 55 []))) 65 [.tmp 10], none⟩, ⟨some 7, .alloc 66 25 [.nil, .nil], none⟩, ⟨none, .store 2 (.tmp 7) (.tmp 11), none⟩]) (.seq (.region [⟨some 13, .load true 2 (.tmp 7), none⟩, ⟨some 14, .mv (.tmp 1), none⟩, ⟨some 15, .call (.c (.one (.fn 56 []))) 130 [.tmp 13, .tmp 14], none⟩, ⟨some 12, .mv (.tmp 15), none⟩, ⟨some 16, .extract (.tmp 12) 0, none⟩, ⟨some 17, .extract (.tmp 12) 1, none⟩, ⟨some 8, .alloc 134 25 [.nil, .nil], none⟩, ⟨some 9, .alloc 135 28 [.nil, .nil], none⟩, ⟨none, .store 2 (.tmp 8) (.tmp 16), none⟩, ⟨none, .store 2 (.tmp 9) (.tmp 17), none⟩]) (.seq (.draw [[], [], [], [], [2, 3], [], [0, 1, 4, 5], [6, 4, 0, 1, 2, 3, 4, 5, 6]] [⟨some 18, .load true 2 (.tmp 7), none⟩, ⟨some 19, .load true 2 (.tmp 8), none⟩, ⟨some 20, .load true 2 (.tmp 7), none⟩, ⟨some 21, .mv (.tmp 2), none⟩, ⟨some 22, .call (.c (.one (.fn 30 []))) 196 [.tmp 20, .tmp 21], none⟩, ⟨some 23, .load true 2 (.tmp 9), none⟩, ⟨some 24, .build [.nil, .nil, .nil, .nil, .nil, .nil, .nil, .nil] [(0, (2, .tmp 18)), (2, (2, .tmp 19)), (4, (2, .tmp 22)), (6, (2, .tmp 23))], none⟩, ⟨none, .store 8 (.tmp 6) (.tmp 24), none⟩]) .ret)))⟩
theorem k_made12 : cFn Try.prog Try.f18 = some c_made12 := by kernel_rfl
set_option maxHeartbeats 2000000 in
theorem made12_ok (d : Dr) (c : List Nat) (s : Nat) (hd : BoundD d) (hc : c.length ≤ 1048576) (hcs : ∀ x ∈ c, x < 256) : CallOK Try.prog 18 [d.v, byV c, u64V s] (.sv (gluV (mdG d) (dG d c) (maskP (mdG d) s) (dM d c))) := by
  refine callOK_W (callS_W (by kernel_rfl) Try.func18 k_made12 (callable_of Try.func18 (by kernel_rfl)) (by simp [c_made12]) ?_)
  simp [c_made12, byV, bys, Dr.v, u64V]
  refine callS_tree (made05_ok d hd) ?_ ?_ ?_
  · rfl
  · rfl
  simp
  refine callS_tree (grown10_ok (mdG d) c mdG_ok hc hcs) ?_ ?_ ?_
  · rfl
  · rfl
  simp [dw0, dw1, dw2, dw3]
  refine dCall_ok (made7_ok (mdG d) s mdG_ok) ?_ ?_ ?_
  · rfl
  · rfl
  simp [dw0, dw1, dw2, dw3, gluV, dG, dM]
  first | kernel_rfl | rfl

/-- A complement without error. -/
theorem of_zero {l g : Gr} {p m : Pa} (h0 : caseErr l g p m = 0) (h : (ofR l g p m).2 = 0) : pairsL m.nodes p.nodes = [] ∧ pairsL m.edges p.edges = [] ∧ danglL g p m = [] ∧ (ofR l g p m).1 = ⟨restL g.nodes.length (goneL m.nodes p.nodes), restL g.edges.length (goneL m.edges p.edges)⟩ := by
  rw [ofR, if_pos h0] at h ⊢
  split at h
  · cases h
  rename_i h2
  split at h
  · rename_i h3
    rw [if_neg h2, if_pos h3]
    refine ⟨List.eq_nil_of_length_eq_zero (by omega), List.eq_nil_of_length_eq_zero (by omega), h3, rfl⟩
  · cases h
theorem of_err {l g : Gr} {p m : Pa} (h0 : caseErr l g p m = 0) : (ofR l g p m).2 = 0 ∨ (ofR l g p m).2 = 14 ∨ (ofR l g p m).2 = 15 := by
  rw [ofR, if_pos h0]
  split
  · exact .inr (.inr rfl)
  split
  · exact .inl rfl
  · exact .inr (.inl rfl)

def c_lawCovers : MFunc := ⟨64, [.tmp 6], .seq (.region [⟨some 3, .box 0 41 (.tmp 0), none⟩, ⟨some 6, .mv (.c (.one (.t (.bool false)))), none⟩]) (.seq (.seq (.region [⟨some 10, .call (.c (.one (.fn 10 []))) 64 [], none⟩, ⟨some 11, .not (.tmp 10), none⟩]) (.cond (.tmp 11) (.seq (.region [⟨some 6, .mv (.c (.one (.t (.bool false)))), none⟩]) .ret) .skip)) (.seq (.region [⟨some 12, .load true 2 (.tmp 3), none⟩, ⟨some 13, .mv (.tmp 1), none⟩, ⟨some 14, .mv (.tmp 2), none⟩, ⟨some 15, .call (.c (.one (.fn 18 []))) 195 [.tmp 12, .tmp 13, .tmp 14], none⟩, ⟨some 7, .alloc 196 30 [.nil, .nil, .nil, .nil, .nil, .nil, .nil, .nil], none⟩, ⟨none, .store 8 (.tmp 7) (.tmp 15), none⟩]) (.seq (.region [⟨some 17, .fieldA 0 (.tmp 7), none⟩, ⟨some 18, .load true 2 (.tmp 17), none⟩, ⟨some 19, .fieldA 2 (.tmp 7), none⟩, ⟨some 20, .load true 2 (.tmp 19), none⟩, ⟨some 21, .fieldA 4 (.tmp 7), none⟩, ⟨some 22, .load true 2 (.tmp 21), none⟩, ⟨some 23, .fieldA 6 (.tmp 7), none⟩, ⟨some 24, .load true 2 (.tmp 23), none⟩, ⟨some 25, .call (.c (.one (.fn 12 []))) 264 [.tmp 18, .tmp 20, .tmp 22, .tmp 24], none⟩, ⟨some 16, .mv (.tmp 25), none⟩, ⟨some 26, .extract (.tmp 16) 0, none⟩, ⟨some 27, .extract (.tmp 16) 1, none⟩, ⟨some 8, .alloc 268 27 [.nil, .nil], none⟩, ⟨none, .store 2 (.tmp 8) (.tmp 26), none⟩, ⟨some 9, .mv (.tmp 27), none⟩]) (.seq (.seq (.region [⟨some 28, .mv (.tmp 9), none⟩, ⟨some 29, .bin .neq (.tmp 28) (.c (.one (.t (.int .i64 0)))), none⟩]) (.cond (.tmp 29) (.seq (.region [⟨some 30, .mv (.tmp 9), none⟩, ⟨some 31, .bin .eql (.tmp 30) (.c (.one (.t (.int .i64 15)))), none⟩, ⟨some 32, .mv (.tmp 31), none⟩, ⟨some 33, .mv (.tmp 9), some (32, false)⟩, ⟨some 34, .bin .eql (.tmp 33) (.c (.one (.t (.int .i64 14)))), some (32, false)⟩, ⟨some 35, .pick (.tmp 32) (.c (.one (.t (.bool true)))) (.tmp 34), none⟩, ⟨some 6, .mv (.tmp 35), none⟩]) .ret) .skip)) (.seq (.region [⟨some 36, .fieldA 2 (.tmp 7), none⟩, ⟨some 37, .fieldA 0 (.tmp 36), none⟩, ⟨some 38, .load false 1 (.tmp 37), none⟩, ⟨some 39, .len (.tmp 38), none⟩, ⟨some 40, .fieldA 0 (.tmp 8), none⟩, ⟨some 41, .load false 1 (.tmp 40), none⟩, ⟨some 42, .fieldA 6 (.tmp 7), none⟩, ⟨some 43, .fieldA 0 (.tmp 42), none⟩, ⟨some 44, .load false 1 (.tmp 43), none⟩, ⟨some 45, .fieldA 4 (.tmp 7), none⟩, ⟨some 46, .fieldA 0 (.tmp 45), none⟩, ⟨some 47, .load false 1 (.tmp 46), none⟩, ⟨some 48, .call (.c (.one (.fn 19 []))) 460 [.tmp 39, .tmp 41, .tmp 44, .tmp 47], none⟩, ⟨some 49, .mv (.tmp 48), none⟩, ⟨some 50, .fieldA 2 (.tmp 7), some (49, true)⟩, ⟨some 51, .fieldA 1 (.tmp 50), some (49, true)⟩, ⟨some 52, .load false 1 (.tmp 51), some (49, true)⟩, ⟨some 53, .len (.tmp 52), some (49, true)⟩, ⟨some 54, .fieldA 1 (.tmp 8), some (49, true)⟩, ⟨some 55, .load false 1 (.tmp 54), some (49, true)⟩, ⟨some 56, .fieldA 6 (.tmp 7), some (49, true)⟩, ⟨some 57, .fieldA 1 (.tmp 56), some (49, true)⟩, ⟨some 58, .load false 1 (.tmp 57), some (49, true)⟩, ⟨some 59, .fieldA 4 (.tmp 7), some (49, true)⟩, ⟨some 60, .fieldA 1 (.tmp 59), some (49, true)⟩, ⟨some 61, .load false 1 (.tmp 60), some (49, true)⟩, ⟨some 62, .call (.c (.one (.fn 19 []))) 474 [.tmp 53, .tmp 55, .tmp 58, .tmp 61], some (49, true)⟩, ⟨some 63, .pick (.tmp 49) (.tmp 62) (.c (.one (.t (.bool false)))), none⟩, ⟨some 6, .mv (.tmp 63), none⟩]) .ret)))))⟩
theorem k_lawCovers : cFn Try.prog Try.f5 = some c_lawCovers := by kernel_rfl
set_option maxHeartbeats 4000000 in
theorem lawCovers_ok (d : Dr) (c : List Nat) (s : Nat) (hd : BoundD d) (hc : c.length ≤ 1048576) (hcs : ∀ x ∈ c, x < 256) : CallOK Try.prog 5 [d.v, byV c, u64V s] (.sv (false, [.bool true])) := by
  refine callOK_W (callS_W (by kernel_rfl) Try.func5 k_lawCovers (callable_of Try.func5 (by kernel_rfl)) (by simp [c_lawCovers]) ?_)
  have hp := mask_tiny (s := s) (mdG_ok (d := d))
  have ht := dTiny (d := d) (c := c) hp
  have h0 := dCase (d := d) (c := c) (mask_sub (s := s) (mdG_ok (d := d)))
  have m0 := dMor (d := d) (c := c)
  simp [c_lawCovers, byV, bys, Dr.v, u64V]
  refine callS_tree awake_ok ?_ ?_ ?_
  · rfl
  · rfl
  simp
  refine callS_tree (made12_ok d c s hd hc hcs) ?_ ?_ ?_
  · rfl
  · rfl
  simp [gluV]
  refine callS_tree (of_ok _ _ _ _ ht) ?_ ?_ ?_
  · rfl
  · rfl
  rcases of_err h0 with h | h | h
  · obtain ⟨p1, p2, p3, p4⟩ := of_zero h0 h
    simp [h, p4]
    refine callS_tree (covers_ok (dG d c).nodes.length (dM d c).nodes (maskP (mdG d) s).nodes ht.tg.1 ht.tm.1 hp.1 p1) ?_ ?_ ?_
    · rfl
    · rfl
    simp
    refine callS_tree (covers_ok (dG d c).edges.length (dM d c).edges (maskP (mdG d) s).edges ht.tg.2 ht.tm.2 hp.2 p2) ?_ ?_ ?_
    · rfl
    · rfl
    simp
  · simp [h]
  · simp [h]
end Go.Proofs.Ythapbbpdcjmmfaa

/- Contracts: graphs of parts. -/
namespace Go.Proofs.Ythapbbpdcjmmfaa
open Abs
set_option linter.unusedSimpArgs false
set_option linter.unusedVariables false
attribute [local simp] rn0 rn1 rn2 rn3 rn4 rn5 rn6 rn7 evOp nests Arg.ev St.val St.set St.new sliceOf binInt2 binInt AV.cells rdAt St.live retOf resOf resAll treeOf treeCell treeCells treeTups untree frameOf TV.av TR.av ints edgs prs fillV splice intsOf trees V1.tree bx Gr.v Pa.v opRd opWr opNew opNewR opArgs argsRd argRd Arg.rd AV.refs V1.refs refsL dstL




/-! ### Parts without error -/
structure SubOk (g : Gr) (p : Pa) : Prop where
  gr : GrOk g
  an : Asc p.nodes
  ae : Asc p.edges
  rn : ∀ x ∈ p.nodes, 0 ≤ x ∧ x < g.nodes.length
  re : ∀ x ∈ p.edges, 0 ≤ x ∧ x < g.edges.length
  de : ∀ x ∈ p.edges, (eth g.edges x.toNat).f ∈ p.nodes ∧ (eth g.edges x.toNat).g ∈ p.nodes
theorem sub_of {g : Gr} {p : Pa} (h : subErr g p = 0) : SubOk g p := by
  have h0 : gErr g = 0 := by
    unfold subErr at h
    split at h
    · assumption
    · exact h
  have h1 : partErr g p = 0 := by
    unfold subErr at h
    rw [if_pos h0] at h
    exact h
  have h2 : ascErr p.nodes g.nodes.length = 0 := by
    unfold partErr at h1
    split at h1
    · assumption
    · exact h1
  have h3 : ascErr p.edges g.edges.length = 0 := by
    unfold partErr at h1
    rw [if_pos h2] at h1
    split at h1
    · assumption
    · exact h1
  have h4 : fe (danF g p) p.edges.length = 0 := by
    unfold partErr at h1
    rw [if_pos h2, if_pos h3] at h1
    exact h1
  obtain ⟨a1, a2⟩ := asc_of h2
  obtain ⟨b1, b2⟩ := asc_of h3
  refine ⟨gErr_ok h0, a1, b1, a2, b2, fun x hx => ?_⟩
  obtain ⟨i, hi, rfl⟩ := mem_nth hx
  have := fe_eq h4 i hi
  unfold danF at this
  split at this
  · assumption
  · cases this
theorem asc_len {l : List Int} {n : Nat} (ha : Asc l) (hr : ∀ x ∈ l, 0 ≤ x ∧ x < n) : l.length ≤ n := by
  have h : ∀ k, k < l.length → (k : Int) ≤ nth l k := by
    intro k
    induction k with
    | zero => intro hk; have := (hr _ (nth_mem hk)).1; omega
    | succ k ih => intro hk; have := ih (by omega); have := ha k (k + 1) (by omega) hk; omega
  rcases Nat.eq_zero_or_pos l.length with h0 | h0
  · omega
  · have h1 := h (l.length - 1) (by omega)
    have h2 := (hr _ (nth_mem (l := l) (k := l.length - 1) (by omega))).2
    omega
theorem bs_idx {l : List Int} {x : Int} (ha : Asc l) (hx : x ∈ l) : bs l x = idx l x := by
  obtain ⟨k, hk, rfl⟩ := mem_nth hx
  have h1 : bs l (nth l k) = k := by
    unfold bs
    rw [count_at (i := k) (by omega) (fun j hj => ha j k hj hk) (fun j h1 h2 => by
      rcases Nat.eq_or_lt_of_le h1 with e | e
      · rw [e]; exact Int.le_refl _
      · exact Int.le_of_lt (ha k j e h2))]
  have h2 : idx l (nth l k) = k := idx_at hk (fun h => by
    obtain ⟨j, hj, he⟩ := mem_nth h
    simp only [List.length_take] at hj
    have : nth (l.take k) j = nth l j := by
      rw [nth_eq (by simp; omega), nth_eq (by omega)]
      simp
    rw [this] at he
    have := ha j k (by omega) hk
    omega) rfl
  rw [h1, h2]

/-! ### The graph of a part -/
def exN (g : Gr) (p : Pa) (k : Nat) : List Int := (p.nodes.take k).map fun x => nth g.nodes x.toNat
def exD (g : Gr) (p : Pa) (x : Int) : Ed := ⟨(eth g.edges x.toNat).t, idx p.nodes (eth g.edges x.toNat).f, idx p.nodes (eth g.edges x.toNat).g⟩
def exE (g : Gr) (p : Pa) (k : Nat) : List Ed := (p.edges.take k).map (exD g p)
def exG (g : Gr) (p : Pa) : Gr := ⟨p.nodes.map fun x => nth g.nodes x.toNat, p.edges.map (exD g p)⟩
theorem exN_succ {g : Gr} {p : Pa} {k : Nat} (h : k < p.nodes.length) : exN g p (k + 1) = exN g p k ++ [nth g.nodes (nth p.nodes k).toNat] := by
  rw [exN, take_succ_nth' h]
  simp [exN]
theorem exE_succ {g : Gr} {p : Pa} {k : Nat} (h : k < p.edges.length) : exE g p (k + 1) = exE g p k ++ [exD g p (nth p.edges k)] := by
  rw [exE, take_succ_nth' h]
  simp [exE]
theorem exN_all {g : Gr} {p : Pa} : exN g p p.nodes.length = (exG g p).nodes := by simp [exN, exG]
theorem exE_all {g : Gr} {p : Pa} : exE g p p.edges.length = (exG g p).edges := by simp [exE, exG]
theorem exN_len {g : Gr} {p : Pa} {k : Nat} (h : k ≤ p.nodes.length) : (exN g p k).length = k := by simp [exN]; omega
theorem exE_len {g : Gr} {p : Pa} {k : Nat} (h : k ≤ p.edges.length) : (exE g p k).length = k := by simp [exE]; omega
/-- The graph of a part and its inclusion, or an error. -/
def exR (g : Gr) (p : Pa) : Gr × Pa × Int := if subErr g p = 0 then (exG g p, p, 0) else (⟨[], []⟩, ⟨[], []⟩, subErr g p)
def exT (x : Gr × Pa × Int) : TR := .tup [x.1.v, x.2.1.v, (false, [.int .i64 x.2.2])]


def c_sextract : MFunc := ⟨85, [.cell 4 true 2, .cell 5 true 2, .tmp 6], .seq (.region [⟨some 2, .box 0 25 (.tmp 0), none⟩, ⟨some 3, .box 1 27 (.tmp 1), none⟩, ⟨some 4, .alloc 2 25 [.nil, .nil], none⟩, ⟨some 5, .alloc 3 28 [.nil, .nil], none⟩, ⟨some 6, .mv (.c (.one (.t (.int .i64 0)))), none⟩]) (.seq (.seq (.region [⟨some 14, .load true 2 (.tmp 2), none⟩, ⟨some 15, .load true 2 (.tmp 3), none⟩, ⟨some 16, .call (.c (.one (.fn 63 []))) 66 [.tmp 14, .tmp 15], none⟩, ⟨some 7, .mv (.tmp 16), none⟩]) (.seq (.region [⟨some 17, .mv (.tmp 7), none⟩, ⟨some 18, .bin .neq (.tmp 17) (.c (.one (.t (.int .i64 0)))), none⟩]) (.cond (.tmp 18) (.seq (.region [⟨some 19, .build [.nil, .nil] [], none⟩, ⟨some 20, .build [.nil, .nil] [], none⟩, ⟨some 21, .mv (.tmp 7), none⟩, ⟨none, .store 2 (.tmp 4) (.tmp 19), none⟩, ⟨none, .store 2 (.tmp 5) (.tmp 20), none⟩, ⟨some 6, .mv (.tmp 21), none⟩]) .ret) .skip))) (.seq (.region [⟨some 8, .alloc 256 25 [.nil, .nil], none⟩]) (.seq (.seq (.region [⟨some 22, .fieldA 0 (.tmp 3), none⟩, ⟨some 23, .load false 1 (.tmp 22), none⟩, ⟨some 24, .len (.tmp 23), none⟩, ⟨some 25, .mv (.c (.one (.t (.int .i64 0)))), none⟩]) (.block 0 (.loop (.seq (.region [⟨some 26, .bin .lss (.tmp 25) (.tmp 24), none⟩]) (.seq (.cond (.tmp 26) .skip (.exit 0)) (.seq (.block 1 (.seq (.region [⟨some 27, .idxA 1 (.tmp 23) (.tmp 25), none⟩, ⟨some 28, .load false 1 (.tmp 27), none⟩, ⟨some 10, .mv (.tmp 28), none⟩]) (.draw [[], [0], [], [2], [], [3, 4], [5], [6], [1, 7], [0, 1, 2, 3, 4, 5, 6, 7, 8], [9, 8, 8, 0, 1, 2, 3, 4, 5, 6, 7, 8]] [⟨some 29, .fieldA 0 (.tmp 8), none⟩, ⟨some 30, .load false 1 (.tmp 29), none⟩, ⟨some 31, .fieldA 0 (.tmp 2), none⟩, ⟨some 32, .load false 1 (.tmp 31), none⟩, ⟨some 33, .mv (.tmp 10), none⟩, ⟨some 34, .idxA 1 (.tmp 32) (.tmp 33), none⟩, ⟨some 35, .load false 1 (.tmp 34), none⟩, ⟨some 36, .mkrow 519 3 1 1 [.t (.int .i64 0)] [(0, (1, .tmp 35))], none⟩, ⟨some 37, .append 520 3 1 8 (.tmp 30) (.tmp 36), none⟩, ⟨some 38, .fieldA 0 (.tmp 8), none⟩, ⟨none, .store 1 (.tmp 38) (.tmp 37), none⟩]))) (.region [⟨some 39, .bin .add (.tmp 25) (.c (.one (.t (.int .i64 1)))), none⟩, ⟨some 25, .mv (.tmp 39), none⟩]))))))) (.seq (.seq (.region [⟨some 40, .fieldA 1 (.tmp 3), none⟩, ⟨some 41, .load false 1 (.tmp 40), none⟩, ⟨some 42, .len (.tmp 41), none⟩, ⟨some 43, .mv (.c (.one (.t (.int .i64 0)))), none⟩]) (.block 2 (.loop (.seq (.region [⟨some 44, .bin .lss (.tmp 43) (.tmp 42), none⟩]) (.seq (.cond (.tmp 44) .skip (.exit 2)) (.seq (.block 3 (.seq (.region [⟨some 45, .idxA 1 (.tmp 41) (.tmp 43), none⟩, ⟨some 46, .load false 1 (.tmp 45), none⟩, ⟨some 12, .mv (.tmp 46), none⟩]) (.seq (.region [⟨some 47, .fieldA 1 (.tmp 2), none⟩, ⟨some 48, .load false 1 (.tmp 47), none⟩, ⟨some 49, .mv (.tmp 12), none⟩, ⟨some 50, .idxA 3 (.tmp 48) (.tmp 49), none⟩, ⟨some 51, .load true 3 (.tmp 50), none⟩, ⟨some 13, .alloc 837 73 [.t (.int .i64 0), .t (.int .i64 0), .t (.int .i64 0)], none⟩, ⟨none, .store 3 (.tmp 13) (.tmp 51), none⟩]) (.seq (.region [⟨some 53, .fieldA 0 (.tmp 3), none⟩, ⟨some 54, .load false 1 (.tmp 53), none⟩, ⟨some 55, .fieldA 1 (.tmp 13), none⟩, ⟨some 56, .load false 1 (.tmp 55), none⟩, ⟨some 57, .call (.c (.one (.fn 64 []))) 900 [.tmp 54, .tmp 56], none⟩, ⟨some 52, .mv (.tmp 57), none⟩, ⟨some 58, .extract (.tmp 52) 0, none⟩, ⟨some 59, .extract (.tmp 52) 1, none⟩, ⟨some 60, .fieldA 1 (.tmp 13), none⟩, ⟨none, .store 1 (.tmp 60) (.tmp 58), none⟩]) (.seq (.region [⟨some 62, .fieldA 0 (.tmp 3), none⟩, ⟨some 63, .load false 1 (.tmp 62), none⟩, ⟨some 64, .fieldA 2 (.tmp 13), none⟩, ⟨some 65, .load false 1 (.tmp 64), none⟩, ⟨some 66, .call (.c (.one (.fn 64 []))) 964 [.tmp 63, .tmp 65], none⟩, ⟨some 61, .mv (.tmp 66), none⟩, ⟨some 67, .extract (.tmp 61) 0, none⟩, ⟨some 68, .extract (.tmp 61) 1, none⟩, ⟨some 69, .fieldA 2 (.tmp 13), none⟩, ⟨none, .store 1 (.tmp 69) (.tmp 67), none⟩]) (.region [⟨some 70, .fieldA 1 (.tmp 8), none⟩, ⟨some 71, .load false 1 (.tmp 70), none⟩, ⟨some 72, .load true 3 (.tmp 13), none⟩, ⟨some 73, .mkrow 1027 73 3 1 [.t (.int .i64 0), .t (.int .i64 0), .t (.int .i64 0)] [(0, (3, .tmp 72))], none⟩, ⟨some 74, .append 1028 73 3 24 (.tmp 71) (.tmp 73), none⟩, ⟨some 75, .fieldA 1 (.tmp 8), none⟩, ⟨none, .store 1 (.tmp 75) (.tmp 74), none⟩])))))) (.region [⟨some 76, .bin .add (.tmp 43) (.c (.one (.t (.int .i64 1)))), none⟩, ⟨some 43, .mv (.tmp 76), none⟩]))))))) (.seq (.draw [[], [], [1], [2], [], [4], [5, 3], [3, 6], [0, 6, 0], [7, 8, 0, 1, 2, 3, 4, 5, 6, 7, 8], [9, 0, 1, 2, 3, 4, 5, 6, 7, 8, 9]] [⟨some 77, .load true 2 (.tmp 8), none⟩, ⟨some 78, .fieldA 0 (.tmp 3), none⟩, ⟨some 79, .load false 1 (.tmp 78), none⟩, ⟨some 80, .call (.c (.one (.fn 45 []))) 1155 [.tmp 79], none⟩, ⟨some 81, .fieldA 1 (.tmp 3), none⟩, ⟨some 82, .load false 1 (.tmp 81), none⟩, ⟨some 83, .call (.c (.one (.fn 45 []))) 1158 [.tmp 82], none⟩, ⟨some 84, .build [.nil, .nil] [(0, (1, .tmp 80)), (1, (1, .tmp 83))], none⟩, ⟨none, .store 2 (.tmp 4) (.tmp 77), none⟩, ⟨none, .store 2 (.tmp 5) (.tmp 84), none⟩, ⟨some 6, .mv (.c (.one (.t (.int .i64 0)))), none⟩]) .ret)))))⟩
theorem k_sextract : cFn Try.prog Try.f36 = some c_sextract := by kernel_rfl
set_option maxHeartbeats 4000000 in
theorem sextract_ok (g : Gr) (p : Pa) (tg : tinyG g) (tp : tinyP p) : CallOK Try.prog 36 [g.v, p.v] (exT (exR g p)) := by
  refine callOK_W (callS_W (by kernel_rfl) Try.func36 k_sextract (callable_of Try.func36 (by kernel_rfl)) (by simp [c_sextract]) ?_)
  simp [c_sextract]
  refine callS_tree (svalid_ok g p tg tp) ?_ ?_ ?_
  · rfl
  · rfl
  by_cases h1 : subErr g p = 0
  case neg =>
    have e : exR g p = (⟨[], []⟩, ⟨[], []⟩, subErr g p) := by simp [exR, h1]
    simp [h1, exT, e, edL]
  have e : exR g p = (exG g p, p, 0) := by simp [exR, h1]
  have ok := sub_of h1
  have b1 := ok.gr.n
  have b2 := ok.gr.e
  have b3 := asc_len ok.an ok.rn
  have b4 := asc_len ok.ae ok.re
  simp [h1]
  refine loopW_count 25 p.nodes.length (fun k S => S.fr 2 = .one (.ptr (0, 0) 0) ∧ S.fr 3 = .one (.ptr (1, 0) 0) ∧ S.fr 4 = .one (.ptr (2, 0) 0) ∧ S.fr 5 = .one (.ptr (3, 0) 0) ∧ S.fr 8 = .one (.ptr (256, 0) 0) ∧ S.fr 23 = .one (.t (ints p.nodes)) ∧ S.fr 24 = .one (.t (.int .i64 p.nodes.length)) ∧
    S.ob (0, 0) = some (bx 25 (g.v.2.map .t)) ∧ S.ob (1, 0) = some (bx 27 (p.v.2.map .t)) ∧ S.ob (2, 0) = some (bx 25 [.nil, .nil]) ∧ S.ob (3, 0) = some (bx 28 [.nil, .nil]) ∧
    ∃ vN, S.ob (256, 0) = some (bx 25 [vN, .nil]) ∧ outR 520 3 1 (exN g p k).length ((exN g p k).map (.int .i64)) S.ob (.one vN)) (by omega) ?_ ?_ ?_
  · simp [exN, outR_nil]
  · rintro k S hlt hw hc ⟨f2, f3, f4, f5, f8, f23, f24, o0, o1, o2, o3, vN, o256, ho⟩
    obtain ⟨x1, x2⟩ := ok.rn _ (nth_mem hlt)
    obtain ⟨x, hx⟩ := Int.eq_ofNat_of_zero_le x1
    have hx2 : x < g.nodes.length := by omega
    have z := exN_len (g := g) (p := p) (k := k) (by omega)
    have zs := exN_succ (g := g) hlt
    rw [hx, Int.toNat_natCast] at zs
    have ho0 := ho
    rcases ho with ⟨a1, _, a3⟩ | ⟨a1, ga, a3, a4⟩
    all_goals
      cases a3
      simp [dw0, dw1, dw2, dw3, f2, f3, f4, f5, f8, f23, f24, o0, o1, o2, o3, o256, hc, hlt, drop_nth hlt, hx, hx2, drop_nth hx2]
      refine kApp_grow (ts := [.int .i64 (nth g.nodes x)]) rfl (ho0.keep fun g => by simp) (by omega) rfl (by omega) (by omega) fun E hE hob hcnt => ?_
      obtain ⟨w, hu⟩ := hE.one
      rw [hu] at hE
      simp [dw0, dw1, dw2, dw3, f2, f3, f4, f5, f8, f23, f24, o0, o1, o2, o3, o256, hc, hob, hu]
      refine ⟨rfl, ?_⟩
      simp [f2, f3, f4, f5, f8, f23, f24, o0, o1, o2, o3, o256, hc, hw, hob, hu, zs]
      exact outR.keep (by simpa using hE) fun g => by simp
  · rintro S hc ⟨f2, f3, f4, f5, f8, f23, f24, o0, o1, o2, o3, vN, o256, ho⟩
    rw [exN_all] at ho
    simp [f2, f3, f4, f5, f8, f23, f24, o0, o1, o2, o3, o256, hc]
    refine loopW_count 43 p.edges.length (fun k S => S.fr 2 = .one (.ptr (0, 0) 0) ∧ S.fr 3 = .one (.ptr (1, 0) 0) ∧ S.fr 4 = .one (.ptr (2, 0) 0) ∧ S.fr 5 = .one (.ptr (3, 0) 0) ∧ S.fr 8 = .one (.ptr (256, 0) 0) ∧ S.fr 41 = .one (.t (ints p.edges)) ∧ S.fr 42 = .one (.t (.int .i64 p.edges.length)) ∧
      S.ob (0, 0) = some (bx 25 (g.v.2.map .t)) ∧ S.ob (1, 0) = some (bx 27 (p.v.2.map .t)) ∧ S.ob (2, 0) = some (bx 25 [.nil, .nil]) ∧ S.ob (3, 0) = some (bx 28 [.nil, .nil]) ∧
      outR 520 3 1 (exG g p).nodes.length ((exG g p).nodes.map (.int .i64)) S.ob (.one vN) ∧
      ∃ vE, S.ob (256, 0) = some (bx 25 [vN, vE]) ∧ outR 1028 73 3 (exE g p k).length (edL (exE g p k)) S.ob (.one vE)) (by omega) ?_ ?_ ?_
    · simp [f2, f3, f4, f5, f8, o0, o1, o2, o3, o256, exE, edL, outR_nil]
      simpa using ho
    · rintro k S hlt hw hc ⟨f2, f3, f4, f5, f8, f41, f42, o0, o1, o2, o3, hN, vE, o256, ho⟩
      obtain ⟨x1, x2⟩ := ok.re _ (nth_mem hlt)
      obtain ⟨d1, d2⟩ := ok.de _ (nth_mem hlt)
      obtain ⟨x, hx⟩ := Int.eq_ofNat_of_zero_le x1
      rw [hx, Int.toNat_natCast] at d1 d2
      have hx2 : x < g.edges.length := by omega
      have hx3 : x * 3 < g.edges.length * 3 := by omega
      have z := exE_len (g := g) (p := p) (k := k) (by omega)
      have zs := exE_succ (g := g) hlt
      have zd : exD g p (nth p.edges k) = ⟨(eth g.edges x).t, idx p.nodes (eth g.edges x).f, idx p.nodes (eth g.edges x).g⟩ := by simp [exD, hx]
      have s1 := bs_idx ok.an d1
      have s2 := bs_idx ok.an d2
      have ho0 := ho
      rcases ho with ⟨a1, _, a3⟩ | ⟨a1, ga, a3, a4⟩
      all_goals
        cases a3
        simp [f2, f3, f4, f5, f8, f41, f42, o0, o1, o2, o3, o256, hc, hlt, drop_nth hlt, hx, hx2, hx3, drop_edL hx2]
        refine callS_tree (bsearch_ok p.nodes (eth g.edges x).f tp.1 ok.an) ?_ ?_ ?_
        · rfl
        · rfl
        simp [f2, f3, f4, f5, f8, f41, f42, o0, o1, o2, o3, o256, hc, s1]
        refine callS_tree (bsearch_ok p.nodes (eth g.edges x).g tp.1 ok.an) ?_ ?_ ?_
        · rfl
        · rfl
        simp [f2, f3, f4, f5, f8, f41, f42, o0, o1, o2, o3, o256, hc, s2]
        refine kApp_grow (ts := edC ⟨(eth g.edges x).t, idx p.nodes (eth g.edges x).f, idx p.nodes (eth g.edges x).g⟩) rfl (ho0.keep fun g => by simp) (by omega) rfl (by omega) (by omega) fun E hE hob hcnt => ?_
        obtain ⟨w, hu⟩ := hE.one
        rw [hu] at hE
        have hN2 := hN.keep (ob' := E.ob) fun g => by rw [hob _ _ (by decide)]; simp
        simp [f2, f3, f4, f5, f8, f41, f42, o0, o1, o2, o3, o256, hc, hw, hob, hu, zs, zd]
        exact ⟨outR.keep (by simpa using hN2) fun g => by simp, outR.keep (by simpa [edL, Nat.add_assoc] using hE) fun g => by simp⟩
    · rintro S hc ⟨f2, f3, f4, f5, f8, f41, f42, o0, o1, o2, o3, hN, vE, o256, ho⟩
      rw [exE_all] at ho
      rw [e, exT]
      generalize exG g p = X at hN ho ⊢
      rcases hN with ⟨n1, n2, n3⟩ | ⟨n1, gg, n3, n4⟩ <;> rcases ho with ⟨m1, m2, m3⟩ | ⟨m1, gg', m3, m4⟩
      all_goals
        cases n3
        cases m3
        simp [dw0, dw1, dw2, dw3, f2, f3, f4, f5, f8, f41, f42, o0, o1, o2, o3, o256, hc]
        refine dCall_ok (clone_row p.nodes tp.1).ok ?_ ?_ ?_
        · rfl
        · rfl
        simp [dw0, dw1, dw2, dw3, f2, f3, f4, f5, f8, f41, f42, o0, o1, o2, o3, o256, hc]
        refine dCall_ok (clone_row p.edges tp.2).ok ?_ ?_ ?_
        · rfl
        · rfl
      · have x1 : X.nodes = [] := List.eq_nil_of_length_eq_zero (by omega)
        have x2 : X.edges = [] := List.eq_nil_of_length_eq_zero (by omega)
        simp [dw0, dw1, dw2, dw3, f2, f3, f4, f5, f8, f41, f42, o0, o1, o2, o3, o256, hc, x1, x2, edL]
        rfl
      · have x1 : X.nodes = [] := List.eq_nil_of_length_eq_zero (by omega)
        simp [dw0, dw1, dw2, dw3, f2, f3, f4, f5, f8, f41, f42, o0, o1, o2, o3, o256, hc, x1, m4, edL, untreeT, untreeI]
        rfl
      · have x2 : X.edges = [] := List.eq_nil_of_length_eq_zero (by omega)
        simp [dw0, dw1, dw2, dw3, f2, f3, f4, f5, f8, f41, f42, o0, o1, o2, o3, o256, hc, x2, n4, edL, untreeT, untreeI]
        rfl
      · simp [dw0, dw1, dw2, dw3, f2, f3, f4, f5, f8, f41, f42, o0, o1, o2, o3, o256, hc, n4, m4, untreeT, untreeI]
        rfl
end Go.Proofs.Ythapbbpdcjmmfaa

/- Contract: initial pushouts (program). -/
namespace Go.Proofs.Ythapbbpdcjmmfaa
open Abs
set_option linter.unusedSimpArgs false
set_option linter.unusedVariables false

/-! ### Rows in a pair that is handed over -/
def outF (nm typ esz n : Nat) (cs : List Abs.C) (ob : Nm → Option Ob) (v : AV) : Prop :=
  (n = 0 ∧ cs = [] ∧ v = .one .nil) ∨ (0 < n ∧ ∃ g, v = .one (.row (nm, g)) ∧ ob (nm, g) = some ⟨true, true, true, esz, n, typ, cs.map .t⟩)
theorem outF.keep {nm typ esz n : Nat} {cs : List Abs.C} {ob ob' : Nm → Option Ob} {v : AV} (h : outF nm typ esz n cs ob v) (ho : ∀ g, ob' (nm, g) = ob (nm, g)) : outF nm typ esz n cs ob' v := by
  rcases h with h | ⟨h1, g, h2, h3⟩
  · exact .inl h
  · exact .inr ⟨h1, g, h2, by rw [ho]; exact h3⟩
theorem outF.treeC {nm typ esz n : Nat} {cs : List Abs.C} {ob : Nm → Option Ob} {u : V1} (h : outF nm typ esz n cs ob (.one u)) (fr : Nat → AV) (cnt : Nat → Nat) : treeCell ⟨fr, ob, cnt⟩ u = some (.sl n cs) := by
  rcases h with ⟨rfl, rfl, h3⟩ | ⟨h1, g, h3, h4⟩
  · cases h3
    rfl
  · cases h3
    exact treeCell_row h4
theorem argTree_two {S : St} {u v : V1} : argTree S (.agg [u, v]) = (treeCell S u).bind fun c => (treeCell S v).map fun d => (true, [c, d]) := by
  cases h1 : treeCell S u <;> cases h2 : treeCell S v <;> simp [argTree, treeCells, h1, h2]
theorem still_two {S : St} {u v : V1} : AV.still S (.agg [u, v]) = (u.still S && (v.still S && true)) := Eq.trans rfl rfl
theorem still_nil {S : St} : V1.still S .nil = true := Eq.trans rfl rfl
theorem still_row {fr : Nat → AV} {ob : Nm → Option Ob} {cnt : Nat → Nat} {o : Nm} {esz n typ : Nat} {cs : List V1} (h : ob o = some ⟨true, true, true, esz, n, typ, cs⟩) : V1.still ⟨fr, ob, cnt⟩ (.row o) = true := by simp [V1.still, St.live, h]
theorem callS_part {P : Program} {f : FuncId} {x : AV} {tx : TV} {v1 v2 : V1} {n1 n2 t1 t2 k1 k2 e1 e2 : Nat} {a b : List Abs.C} {r : TR} {ob : Nm → Option Ob} {cnt : Nat → Nat} {R : AV → (Nm → Option Ob) → (Nat → Nat) → Prop}
    (h : CallOK P f [tx, (true, [.sl n1 a, .sl n2 b])] r) (hx : ∀ ob cnt, argTree ⟨fun _ => .undef, ob, cnt⟩ x = some tx ∧ x.still ⟨fun _ => .undef, ob, cnt⟩ = true)
    (h1 : outR k1 t1 e1 n1 a ob (.one v1)) (h2 : outR k2 t2 e2 n2 b ob (.one v2)) (hd : k1 ≠ k2)
    (hR : ∀ ob', outF k1 t1 e1 n1 a ob' (.one v1) → outF k2 t2 e2 n2 b ob' (.one v2) → (∀ nm g, nm ≠ k1 → nm ≠ k2 → ob' (nm, g) = ob (nm, g)) → R r.av ob' cnt) : CallS P f [x, .agg [v1, v2]] ob cnt R := by
  have hx1 := fun ob => (hx ob cnt).1
  have hx2 := fun ob => (hx ob cnt).2
  have fin : ∀ ob', outF k1 t1 e1 n1 a ob' (.one v1) → outF k2 t2 e2 n2 b ob' (.one v2) → (∀ nm g, nm ≠ k1 → nm ≠ k2 → ob' (nm, g) = ob (nm, g)) → CallS P f [x, .agg [v1, v2]] ob' cnt R := by
    intro ob' g1 g2 g3
    refine callS_tree h ?_ ?_ (hR ob' g1 g2 g3)
    · simp [argTrees, hx1, argTree_two, g1.treeC, g2.treeC]
    · have s1 : V1.still ⟨fun _ => .undef, ob', cnt⟩ v1 = true := by
        rcases g1 with ⟨_, _, q⟩ | ⟨_, g, q, q'⟩ <;> cases q
        · exact still_nil
        · exact still_row q'
      have s2 : V1.still ⟨fun _ => .undef, ob', cnt⟩ v2 = true := by
        rcases g2 with ⟨_, _, q⟩ | ⟨_, g, q, q'⟩ <;> cases q
        · exact still_nil
        · exact still_row q'
      simp [hx2, still_two, s1, s2]
  rcases h1 with ⟨p1, p2, p3⟩ | ⟨p1, g1, p3, o1⟩ <;> rcases h2 with ⟨q1, q2, q3⟩ | ⟨q1, g2, q3, o2⟩
  · exact fin ob (.inl ⟨p1, p2, p3⟩) (.inl ⟨q1, q2, q3⟩) fun _ _ _ _ => rfl
  · refine callS_freeze [(k2, g2)] (fin _ (.inl ⟨p1, p2, p3⟩) (.inr ⟨q1, g2, q3, ?_⟩) fun nm g e1 e2 => ?_)
    · simp [frzAll, frzOne, o2, upd_same]
    · have : (nm, g) ≠ (k2, g2) := fun e => e2 (by cases e; rfl)
      simp [frzAll, frzOne, o2, upd_ne _ _ this]
  · refine callS_freeze [(k1, g1)] (fin _ (.inr ⟨p1, g1, p3, ?_⟩) (.inl ⟨q1, q2, q3⟩) fun nm g e1 e2 => ?_)
    · simp [frzAll, frzOne, o1, upd_same]
    · have : (nm, g) ≠ (k1, g1) := fun e => e1 (by cases e; rfl)
      simp [frzAll, frzOne, o1, upd_ne _ _ this]
  · have hne : (k2, g2) ≠ (k1, g1) := fun e => hd (by cases e; rfl)
    have hne' : (k1, g1) ≠ (k2, g2) := fun e => hne e.symm
    have w1 : frzAll [(k1, g1), (k2, g2)] ob = upd (upd ob (k1, g1) (some ⟨true, true, true, e1, n1, t1, a.map .t⟩)) (k2, g2) (some ⟨true, true, true, e2, n2, t2, b.map .t⟩) := by
      simp [frzAll, frzOne, o1, upd_ne _ _ hne, o2]
    refine callS_freeze [(k1, g1), (k2, g2)] ?_
    rw [w1]
    refine fin _ (.inr ⟨p1, g1, p3, ?_⟩) (.inr ⟨q1, g2, q3, ?_⟩) fun nm g f1 f2 => ?_
    · rw [upd_ne _ _ hne', upd_same]
    · rw [upd_same]
    · have f1 : (nm, g) ≠ (k1, g1) := fun e => f1 (by cases e; rfl)
      have f2 : (nm, g) ≠ (k2, g2) := fun e => f2 (by cases e; rfl)
      rw [upd_ne _ _ f2, upd_ne _ _ f1]

/-! ### What the initial pushout is made of -/
def bnS (m : Pa) (l : List Int) (x : Int) : List Int := if 0 ≤ idx m.nodes x ∧ idx m.nodes x ∉ l then l ++ [idx m.nodes x] else l
def bnU (m : Pa) (b : Gr) : Nat → List Int
  | 0 => []
  | k + 1 => if (k : Int) ∈ m.edges then bnU m b k else bnS m (bnS m (bnU m b k) (eth b.edges k).f) (eth b.edges k).g
theorem bnS_len {m : Pa} {l : List Int} {x : Int} : (bnS m l x).length ≤ l.length + 1 := by
  unfold bnS
  split <;> simp
theorem bnU_len {m : Pa} {b : Gr} : ∀ k, (bnU m b k).length ≤ 2 * k
  | 0 => by simp [bnU]
  | k + 1 => by
    have ih := bnU_len (m := m) (b := b) k
    unfold bnU
    split
    · omega
    · have h1 := bnS_len (m := m) (l := bnU m b k) (x := (eth b.edges k).f)
      have h2 := bnS_len (m := m) (l := bnS m (bnU m b k) (eth b.edges k).f) (x := (eth b.edges k).g)
      omega
def bndL (m : Pa) (b : Gr) : List Int := (bnU m b b.edges.length).mergeSort fun x y => decide (x ≤ y)
def cxF (m : Pa) (k : Nat) : Option Int := if (k : Int) ∈ m.edges then none else some (k : Int)
def cxL (m : Pa) (b : Gr) : List Int := collect (cxF m) b.edges.length
def cnF (m : Pa) (B : List Int) (k : Nat) : Option Int := if idx m.nodes k < 0 ∨ idx m.nodes k ∈ B then some (k : Int) else none
def cnL (m : Pa) (b : Gr) : List Int := collect (cnF m (bndL m b)) b.nodes.length
def inK (m : Pa) (b : Gr) (k : Nat) : List Int := ((bndL m b).take k).map fun i => idx (cnL m b) (nth m.nodes i.toNat)
def inG (m : Pa) (b : Gr) : List Int := (bndL m b).map fun i => idx (cnL m b) (nth m.nodes i.toNat)
theorem inK_succ {m : Pa} {b : Gr} {k : Nat} (h : k < (bndL m b).length) : inK m b (k + 1) = inK m b k ++ [idx (cnL m b) (nth m.nodes (nth (bndL m b) k).toNat)] := by
  rw [inK, take_succ_nth' h]
  simp [inK]
theorem inK_all {m : Pa} {b : Gr} : inK m b (bndL m b).length = inG m b := by simp [inK, inG]
theorem inK_len {m : Pa} {b : Gr} {k : Nat} (h : k ≤ (bndL m b).length) : (inK m b k).length = k := by simp [inK]; omega
def inB (m : Pa) (b : Gr) : Pa := ⟨bndL m b, []⟩
def inC (m : Pa) (b : Gr) : Pa := ⟨cnL m b, cxL m b⟩
/-- The initial pushout over an injective morphism. -/
def inS (a b : Gr) (m : Pa) : Sq := ⟨exG a (inB m b), a, exG b (inC m b), b, inB m b, ⟨inG m b, []⟩, m, inC m b⟩
def noS : Sq := ⟨⟨[], []⟩, ⟨[], []⟩, ⟨[], []⟩, ⟨[], []⟩, ⟨[], []⟩, ⟨[], []⟩, ⟨[], []⟩, ⟨[], []⟩⟩
def inE (a b : Gr) (m : Pa) : Int := if morErr a b m = 0 then if injB a b m = true then 0 else 15 else morErr a b m
def inR (a b : Gr) (m : Pa) : Sq × Int := if inE a b m = 0 then (inS a b m, 0) else (noS, inE a b m)
def sqT (x : Sq × Int) : TR := .tup [x.1.v, (false, [.int .i64 x.2])]

theorem idx_lt {l : List Int} {x : Int} (h : x ∈ l) : 0 ≤ idx l x ∧ idx l x < l.length ∧ nth l (idx l x).toNat = x := by
  have h1 : l.idxOf x < l.length := List.idxOf_lt_length_iff.2 h
  simp only [idx, if_pos h, Int.toNat_natCast]
  refine ⟨by omega, by omega, ?_⟩
  rw [nth_eq h1, List.getElem_idxOf]
theorem idx_neg {l : List Int} {x : Int} : idx l x < 0 ↔ x ∉ l := by
  unfold idx
  split
  · exact ⟨fun h => by omega, fun h => absurd (by assumption) h⟩
  · exact ⟨fun _ => by assumption, fun _ => by omega⟩
theorem bnS_mem {m : Pa} {l : List Int} {x y : Int} : y ∈ bnS m l x ↔ y ∈ l ∨ (0 ≤ y ∧ y = idx m.nodes x) := by
  unfold bnS
  split
  · rename_i h
    simp only [List.mem_append, List.mem_singleton]
    exact ⟨fun h' => h'.imp id fun e => ⟨by rw [e]; exact h.1, e⟩, fun h' => h'.imp id fun e => e.2⟩
  · rename_i h
    refine ⟨.inl, fun h' => h'.elim id fun e => ?_⟩
    rcases e with ⟨e1, rfl⟩
    by_cases e3 : idx m.nodes x ∈ l
    · exact e3
    · exact absurd ⟨e1, e3⟩ h
theorem bnS_nodup {m : Pa} {l : List Int} {x : Int} (h : l.Nodup) : (bnS m l x).Nodup := by
  unfold bnS
  split
  · rename_i h'
    rw [List.nodup_append]
    refine ⟨h, by simp, fun a ha b hb => ?_⟩
    simp only [List.mem_singleton] at hb
    subst hb
    exact fun e => h'.2 (e ▸ ha)
  · exact h
theorem bnU_nodup {m : Pa} {b : Gr} : ∀ k, (bnU m b k).Nodup
  | 0 => by simp [bnU]
  | k + 1 => by
    unfold bnU
    split
    · exact bnU_nodup k
    · exact bnS_nodup (bnS_nodup (bnU_nodup k))
theorem bnU_mem {m : Pa} {b : Gr} {y : Int} : ∀ {k : Nat}, y ∈ bnU m b k ↔ ∃ i : Nat, i < k ∧ (i : Int) ∉ m.edges ∧ 0 ≤ y ∧ (y = idx m.nodes (eth b.edges i).f ∨ y = idx m.nodes (eth b.edges i).g)
  | 0 => by simp [bnU]
  | k + 1 => by
    have ih := bnU_mem (m := m) (b := b) (y := y) (k := k)
    unfold bnU
    split
    · rename_i h
      rw [ih]
      refine ⟨fun ⟨i, h1, h2⟩ => ⟨i, by omega, h2⟩, fun ⟨i, h1, h2, h3⟩ => ⟨i, ?_, h2, h3⟩⟩
      rcases Nat.lt_or_ge i k with e | e
      · exact e
      · have : i = k := by omega
        subst this
        exact absurd h h2
    · rename_i h
      rw [bnS_mem, bnS_mem, ih]
      constructor
      · rintro ((⟨i, h1, h2⟩ | ⟨h1, h2⟩) | ⟨h1, h2⟩)
        · exact ⟨i, by omega, h2⟩
        · exact ⟨k, by omega, h, h1, .inl h2⟩
        · exact ⟨k, by omega, h, h1, .inr h2⟩
      · rintro ⟨i, h1, h2, h3, h4⟩
        rcases Nat.lt_or_ge i k with e | e
        · exact .inl (.inl ⟨i, e, h2, h3, h4⟩)
        · have : i = k := by omega
          subst this
          rcases h4 with h4 | h4
          · exact .inl (.inr ⟨h3, h4⟩)
          · exact .inr ⟨h3, h4⟩
theorem bndL_mem {m : Pa} {b : Gr} {y : Int} : y ∈ bndL m b ↔ y ∈ bnU m b b.edges.length := (List.mergeSort_perm ..).mem_iff
theorem bndL_asc {m : Pa} {b : Gr} : (bndL m b).Pairwise (· < ·) := by
  have h1 : (bndL m b).Pairwise fun x y => decide (x ≤ y) = true := List.pairwise_mergeSort (fun a b c h1 h2 => by simp at *; omega) (fun a b => by simp; omega) _
  have h2 : (bndL m b).Nodup := (List.mergeSort_perm ..).nodup_iff.2 (bnU_nodup _)
  refine (h1.and h2).imp fun {x y} h => ?_
  have := h.1
  have := h.2
  simp at *
  omega
theorem bndL_in {m : Pa} {b : Gr} {y : Int} (h : y ∈ bndL m b) : 0 ≤ y ∧ y < m.nodes.length := by
  rw [bndL_mem, bnU_mem] at h
  obtain ⟨i, _, _, h1, h2⟩ := h
  refine ⟨h1, ?_⟩
  have key : ∀ x, 0 ≤ idx m.nodes x → idx m.nodes x < m.nodes.length := fun x h => by
    by_cases e : x ∈ m.nodes
    · exact (idx_lt e).2.1
    · have := idx_neg.2 e
      omega
  rcases h2 with rfl | rfl
  · exact key _ h1
  · exact key _ h1
end Go.Proofs.Ythapbbpdcjmmfaa

/- Contract: initial pushouts (program, 2). -/
namespace Go.Proofs.Ythapbbpdcjmmfaa
open Abs
set_option linter.unusedSimpArgs false
set_option linter.unusedVariables false

theorem asc_zero {l : List Int} {n : Nat} (ha : Asc l) (hr : ∀ x ∈ l, 0 ≤ x ∧ x < n) : ascErr l n = 0 := fe_zero fun j hj => by
  have h1 := hr _ (nth_mem hj)
  have h2 : ¬ nth l j < 0 := by omega
  have h3 : ¬ (n : Int) ≤ nth l j := by omega
  have h4 : ¬ (0 < j ∧ nth l j ≤ nth l (j - 1)) := fun h => by
    have := ha (j - 1) j (by omega) hj
    omega
  simp only [ascF, if_neg h2, if_neg h3, if_neg h4]
theorem sub_zero {g : Gr} {p : Pa} (h0 : gErr g = 0) (an : Asc p.nodes) (ae : Asc p.edges) (rn : ∀ x ∈ p.nodes, 0 ≤ x ∧ x < g.nodes.length) (re : ∀ x ∈ p.edges, 0 ≤ x ∧ x < g.edges.length)
    (de : ∀ x ∈ p.edges, (eth g.edges x.toNat).f ∈ p.nodes ∧ (eth g.edges x.toNat).g ∈ p.nodes) : subErr g p = 0 := by
  rw [subErr, if_pos h0, partErr, if_pos (asc_zero an rn), if_pos (asc_zero ae re)]
  refine fe_zero fun j hj => ?_
  rw [danF, if_pos (de _ (nth_mem hj))]
theorem mor_g {a b : Gr} {m : Pa} (h : morErr a b m = 0) : gErr a = 0 ∧ gErr b = 0 := by
  unfold morErr at h
  split at h
  · split at h
    · exact ⟨by assumption, by assumption⟩
    · exact absurd h (by assumption)
  · exact absurd h (by assumption)
theorem collect_asc {f : Nat → Option Int} (hf : ∀ k x, f k = some x → x = k) : ∀ {n : Nat}, (collect f n).Pairwise (· < ·)
  | 0 => List.Pairwise.nil
  | n + 1 => by
    have ih := collect_asc hf (n := n)
    cases h : f n with
    | none => rw [collect_none h]; exact ih
    | some x =>
      rw [collect_some h, List.pairwise_append]
      refine ⟨ih, by simp, fun a ha b hb => ?_⟩
      obtain ⟨j, hj, hj'⟩ := mem_collect.1 ha
      have h1 := hf _ _ hj'
      have h2 := hf _ _ h
      simp only [List.mem_singleton] at hb
      omega
theorem cxF_eq (m : Pa) : ∀ k x, cxF m k = some x → x = k := fun k x h => by
  unfold cxF at h
  split at h
  · cases h
  · injection h with h; exact h.symm
theorem cnF_eq (m : Pa) (B : List Int) : ∀ k x, cnF m B k = some x → x = k := fun k x h => by
  unfold cnF at h
  split at h
  · injection h with h; exact h.symm
  · cases h
theorem cx_mem {m : Pa} {b : Gr} {x : Int} : x ∈ cxL m b ↔ ∃ i : Nat, x = i ∧ i < b.edges.length ∧ (i : Int) ∉ m.edges := by
  rw [cxL, mem_collect]
  constructor
  · rintro ⟨j, hj, h⟩
    have := cxF_eq m _ _ h
    unfold cxF at h
    split at h
    · cases h
    · exact ⟨j, this, hj, by assumption⟩
  · rintro ⟨i, rfl, h1, h2⟩
    exact ⟨i, h1, by simp [cxF, h2]⟩
theorem cn_mem {m : Pa} {b : Gr} {x : Int} : x ∈ cnL m b ↔ ∃ i : Nat, x = i ∧ i < b.nodes.length ∧ (x ∉ m.nodes ∨ idx m.nodes x ∈ bndL m b) := by
  rw [cnL, mem_collect]
  constructor
  · rintro ⟨j, hj, h⟩
    have := cnF_eq m _ _ _ h
    unfold cnF at h
    split at h
    · rename_i h'
      rw [idx_neg] at h'
      exact ⟨j, this, hj, this ▸ h'⟩
    · cases h
  · rintro ⟨i, rfl, h1, h2⟩
    rw [← idx_neg] at h2
    exact ⟨i, h1, by simp only [cnF, if_pos h2]⟩
theorem end_in {m : Pa} {b : Gr} {i : Nat} (gb : GrOk b) (hi : i < b.edges.length) (hm : (i : Int) ∉ m.edges) : (eth b.edges i).f ∈ cnL m b ∧ (eth b.edges i).g ∈ cnL m b := by
  obtain ⟨_, _, g1, g2, g3, g4⟩ := gb.edges _ (eth_mem hi)
  obtain ⟨x, hx⟩ := Int.eq_ofNat_of_zero_le g1
  obtain ⟨y, hy⟩ := Int.eq_ofNat_of_zero_le g3
  have key : ∀ e : Int, (e = (eth b.edges i).f ∨ e = (eth b.edges i).g) → e ∉ m.nodes ∨ idx m.nodes e ∈ bndL m b := fun e he => by
    by_cases h : e ∈ m.nodes
    · refine .inr (bndL_mem.2 (bnU_mem.2 ⟨i, hi, hm, (idx_lt h).1, ?_⟩))
      rcases he with rfl | rfl
      · exact .inl rfl
      · exact .inr rfl
    · exact .inl h
  exact ⟨cn_mem.2 ⟨x, hx, by omega, key _ (.inl rfl)⟩, cn_mem.2 ⟨y, hy, by omega, key _ (.inr rfl)⟩⟩
theorem inB_ok {a b : Gr} {m : Pa} (h0 : gErr a = 0) (hl : m.nodes.length = a.nodes.length) : subErr a (inB m b) = 0 :=
  sub_zero h0 (asc_iff.2 bndL_asc) (fun i j _ h => absurd h (by simp [inB])) (fun x hx => by have := bndL_in hx; omega) (fun x hx => by simp [inB] at hx) (fun x hx => by simp [inB] at hx)
theorem inC_ok {b : Gr} {m : Pa} (h0 : gErr b = 0) : subErr b (inC m b) = 0 := by
  have gb := gErr_ok h0
  refine sub_zero h0 (asc_iff.2 (collect_asc (cnF_eq m _))) (asc_iff.2 (collect_asc (cxF_eq m))) (fun x hx => ?_) (fun x hx => ?_) (fun x hx => ?_)
  · obtain ⟨i, rfl, h1, _⟩ := cn_mem.1 hx
    omega
  · obtain ⟨i, rfl, h1, _⟩ := cx_mem.1 hx
    omega
  · obtain ⟨i, rfl, h1, h2⟩ := cx_mem.1 hx
    exact end_in gb h1 h2

theorem Abs.outR.outL {nm typ esz n : Nat} {cs : List Abs.C} {ob : Nm → Option Ob} {v : AV} (h : outR nm typ esz n cs ob v) : Abs.outL [nm] typ esz n cs ob v := by
  rcases h with ⟨h1, h2, h3⟩ | ⟨h1, g, h3, h4⟩
  · exact .inl ⟨h1, h2, h3⟩
  · exact .inr ⟨h1, nm, by simp, g, h3, h4⟩
theorem Abs.outL.outR {nm typ esz n : Nat} {cs : List Abs.C} {ob : Nm → Option Ob} {v : AV} (h : Abs.outL [nm] typ esz n cs ob v) : outR nm typ esz n cs ob v := by
  rcases h with ⟨h1, h2, h3⟩ | ⟨h1, nm', hm, g, h3, h4⟩
  · exact .inl ⟨h1, h2, h3⟩
  · simp at hm
    subst hm
    exact .inr ⟨h1, g, h3, h4⟩
theorem argTrees_row {nm typ esz n : Nat} {cs : List Abs.C} {ob : Nm → Option Ob} {u : V1} {c : Abs.C} (h : outR nm typ esz n cs ob (.one u)) (fr : Nat → AV) (cnt : Nat → Nat) : argTrees ⟨fr, ob, cnt⟩ [.one u, .one (.t c)] = some [(false, [.sl n cs]), (false, [c])] := by
  simp only [argTrees, argTree_one, h.treeC fr cnt]
  rfl
theorem argTrees_rowF {nm typ esz n : Nat} {cs : List Abs.C} {ob : Nm → Option Ob} {u : V1} {c : Abs.C} (h : outF nm typ esz n cs ob (.one u)) (fr : Nat → AV) (cnt : Nat → Nat) : argTrees ⟨fr, ob, cnt⟩ [.one u, .one (.t c)] = some [(false, [.sl n cs]), (false, [c])] := by
  simp only [argTrees, argTree_one, h.treeC fr cnt]
  rfl
theorem outR_inK {m : Pa} {b : Gr} {nm typ : Nat} {ob : Nm → Option Ob} : outR nm typ 1 (inK m b 0).length ((inK m b 0).map (.int .i64)) ob (.one .nil) := .inl ⟨by simp [inK], by simp [inK], rfl⟩
def bnV (m : Pa) (l : List Int) (f g : Int) (j : Nat) : List Int := if j = 0 then l else if j = 1 then bnS m l f else bnS m (bnS m l f) g


end Go.Proofs.Ythapbbpdcjmmfaa

/- The graph of a part and its inclusion; the initial pushout is a pushout and a pullback. No program in sight. -/
namespace Go.Proofs.Ythapbbpdcjmmfaa
open Abs Po
set_option linter.unusedSimpArgs false
set_option linter.unusedVariables false

/-- The inclusion of a part. -/
theorem ex_mor {g : Gr} {p : Pa} (h : SubOk g p) : MorOk (exG g p) g p := by
  have ln := asc_len h.an h.rn
  have le := asc_len h.ae h.re
  have g1 := h.gr.n
  have g2 := h.gr.e
  have nn : ∀ i, i < p.nodes.length → nth (exG g p).nodes i = nth g.nodes (nth p.nodes i).toNat := fun i hi => by
    rw [nth_eq (by simp [exG]; exact hi), nth_eq hi]
    simp [exG]
  have ee : ∀ i, i < p.edges.length → eth (exG g p).edges i = exD g p (nth p.edges i) := fun i hi => by
    rw [eth_eq (by simp [exG]; exact hi), nth_eq hi]
    simp [exG]
  have l1 : p.nodes.length = (exG g p).nodes.length := by simp [exG]
  have l2 : p.edges.length = (exG g p).edges.length := by simp [exG]
  refine ⟨⟨by rw [← l1]; omega, by rw [← l2]; omega, fun x hx => ?_, fun e he => ?_⟩, h.gr, l1, l2, fun i hi => ?_, fun i hi => ?_⟩
  · obtain ⟨i, hi, rfl⟩ := mem_nth hx
    rw [← l1] at hi
    rw [nn i hi]
    have := h.rn _ (nth_mem hi)
    exact h.gr.kinds _ (nth_mem (by omega))
  · obtain ⟨i, hi, rfl⟩ := mem_eth he
    rw [← l2] at hi
    have hm := nth_mem hi
    have := h.re _ hm
    obtain ⟨d1, d2⟩ := h.de _ hm
    obtain ⟨t1, t2, _⟩ := h.gr.edges _ (eth_mem (l := g.edges) (k := (nth p.edges i).toNat) (by omega))
    have a1 := idx_lt d1
    have a2 := idx_lt d2
    rw [ee i hi, exD, ← l1]
    exact ⟨t1, t2, a1.1, a1.2.1, a2.1, a2.2.1⟩
  · rw [← l1] at hi
    have := h.rn _ (nth_mem hi)
    exact ⟨this.1, this.2, (nn i hi).symm⟩
  · rw [← l2] at hi
    have hm := nth_mem hi
    have := h.re _ hm
    obtain ⟨d1, d2⟩ := h.de _ hm
    have a1 := idx_lt d1
    have a2 := idx_lt d2
    rw [ee i hi, exD]
    exact ⟨this.1, this.2, rfl, a1.2.2, a2.2.2⟩
theorem asc_nodup {l : List Int} (h : Asc l) : l.Nodup := by
  rw [List.nodup_iff_pairwise_ne]
  exact (asc_iff.1 h).imp fun h => by omega

theorem fn_inj {l : List Int} {n m : Nat} (hl : l.length = n) (pl : placesIn l m) (h : l.Nodup) {i j : Nat} (hi : i < n) (hj : j < n) (e : fn l i = fn l j) : i = j := (nodup_fn hl pl).1 h i j hi hj e
theorem fn_idx {l : List Int} {x : Int} (h : x ∈ l) : (idx l x).toNat < l.length ∧ nth l (idx l x).toNat = x := by
  have := idx_lt h
  exact ⟨by omega, this.2.2⟩
theorem idx_nth {l : List Int} (h : l.Nodup) {i : Nat} (hi : i < l.length) : idx l (nth l i) = i := by
  have h1 := idx_lt (nth_mem hi)
  obtain ⟨j, hj⟩ := Int.eq_ofNat_of_zero_le h1.1
  have h3 := h1.2.2
  have h4 := h1.2.1
  rw [hj, Int.toNat_natCast] at h3
  rw [hj] at h4 ⊢
  rw [List.nodup_iff_pairwise_ne, List.pairwise_iff_getElem] at h
  rw [nth_eq (by omega), nth_eq hi] at h3
  rcases Nat.lt_trichotomy i j with e | e | e
  · exact absurd h3.symm (h i j hi (by omega) e)
  · rw [e]
  · exact absurd h3 (h j i (by omega) hi e)

section initial
variable {a b : Gr} {m : Pa}
/-- The initial pushout over an injective morphism is a pushout and a pullback. -/
theorem in_sq (h1 : morErr a b m = 0) (h2 : injB a b m = true) : sqErr (inS a b m) = 0 ∧ commB (inS a b m) = true ∧ SqPO (inS a b m) ∧ SqPB (inS a b m) := by
  have mo := mor_ok h1
  have mn : m.nodes.Nodup := by simp [injB] at h2; exact h2.1.2
  have me : m.edges.Nodup := by simp [injB] at h2; exact h2.2
  have sB := sub_of (inB_ok (b := b) (mor_g h1).1 mo.ln)
  have sC := sub_of (inC_ok (m := m) (mor_g h1).2)
  have F := ex_mor sB
  have K := ex_mor sC
  have lA : (exG a (inB m b)).nodes.length = (bndL m b).length := by simp [exG, inB]
  have lAe : (exG a (inB m b)).edges.length = 0 := by simp [exG, inB]
  have lC : (exG b (inC m b)).nodes.length = (cnL m b).length := by simp [exG, inC]
  have lCe : (exG b (inC m b)).edges.length = (cxL m b).length := by simp [exG, inC]
  have nB : (bndL m b).Nodup := asc_nodup sB.an
  have nC : (cnL m b).Nodup := asc_nodup sC.an
  have nX : (cxL m b).Nodup := asc_nodup sC.ae
  have pB : placesIn (bndL m b) a.nodes.length := sB.rn
  have pC : placesIn (cnL m b) b.nodes.length := sC.rn
  have pX : placesIn (cxL m b) b.edges.length := sC.re
  have lm := mo.ln
  have le := mo.le
  have incn : ∀ i, i < (bndL m b).length → nth m.nodes (fn (bndL m b) i) ∈ cnL m b := fun i hi => by
    obtain ⟨e1, e2⟩ := fn_at pB hi
    obtain ⟨e3, e4⟩ := fn_at mo.rn (show fn (bndL m b) i < m.nodes.length by omega)
    refine cn_mem.2 ⟨_, e3, e4, .inr ?_⟩
    rw [idx_nth mn (by omega), ← e1]
    exact nth_mem hi
  have gn : ∀ i, i < (bndL m b).length → nth (inG m b) i = idx (cnL m b) (nth m.nodes (fn (bndL m b) i)) := fun i hi => by
    rw [nth_eq (by simp [inG]; exact hi)]
    simp only [inG, List.getElem_map, fn, nth_eq hi]
  have lG : (inG m b).length = (bndL m b).length := by simp [inG]
  have gk : ∀ i, i < (bndL m b).length → fn (inG m b) i < (cnL m b).length ∧ nth (cnL m b) (fn (inG m b) i) = nth m.nodes (fn (bndL m b) i) := fun i hi => by
    have := fn_idx (incn i hi)
    rw [fn, gn i hi]
    exact this
  have pG : placesIn (inG m b) (cnL m b).length := fun x hx => by
    obtain ⟨i, hi, rfl⟩ := mem_nth hx
    rw [lG] at hi
    have := idx_lt (incn i hi)
    rw [gn i hi]
    exact ⟨this.1, this.2.1⟩
  have G : MorOk (exG a (inB m b)) (exG b (inC m b)) ⟨inG m b, []⟩ := by
    refine Hom.ok ⟨?_, ?_, ?_, ?_, fun i hi => ?_, fun i hi => ?_⟩ F.ga K.ga
    · rw [lA]; exact lG
    · rw [lAe]; rfl
    · rw [lC]; exact pG
    · intro x hx; simp at hx
    · rw [lA] at hi
      have f1 := F.hom.kn i (by rw [lA]; exact hi)
      obtain ⟨k1, k2⟩ := gk i hi
      have c1 := K.hom.kn (fn (inG m b) i) (by rw [lC]; exact k1)
      have c2 : fn (cnL m b) (fn (inG m b) i) = fn m.nodes (fn (bndL m b) i) := by rw [fn, k2]; rfl
      have c3 := mo.hom.kn (fn (bndL m b) i) (fn_at pB hi).2
      rw [← c1, ← f1]
      show nth b.nodes (fn (cnL m b) (fn (inG m b) i)) = nth a.nodes (fn (bndL m b) i)
      rw [c2, c3]
    · rw [lAe] at hi; omega
  have cm : ∀ i, i < (bndL m b).length → fn m.nodes (fn (bndL m b) i) = fn (cnL m b) (fn (inG m b) i) := fun i hi => by
    rw [fn, ← (gk i hi).2]; rfl
  have hsq : sqErr (inS a b m) = 0 := sq_zero F G mo K
  have both : ∀ x c, x < a.nodes.length → c < (cnL m b).length → fn m.nodes x = fn (cnL m b) c → ∃ i, i < (bndL m b).length ∧ fn (bndL m b) i = x ∧ fn (inG m b) i = c := fun x c hx hc e => by
    obtain ⟨e1, e2⟩ := fn_at pC hc
    obtain ⟨e3, e4⟩ := fn_at mo.rn (show x < m.nodes.length by omega)
    have hin := nth_mem hc
    obtain ⟨y, hy, hy2, hy3⟩ := cn_mem.1 hin
    have e5 : nth m.nodes x = nth (cnL m b) c := by rw [e1, e3, e]
    rw [← e5] at hy3
    have hm := nth_mem (l := m.nodes) (k := x) (by omega)
    rcases hy3 with h | h
    · exact absurd hm h
    · rw [idx_nth mn (by omega)] at h
      obtain ⟨i, hi, hi2⟩ := mem_nth h
      have b1 : fn (bndL m b) i = x := by rw [fn, hi2]; rfl
      refine ⟨i, hi, b1, ?_⟩
      obtain ⟨k1, k2⟩ := gk i hi
      refine fn_inj rfl pC nC k1 hc ?_
      rw [fn, k2, b1, e5]
      rfl
  have coverN : ∀ d, d < b.nodes.length → (∃ x, x < a.nodes.length ∧ fn m.nodes x = d) ∨ (∃ c, c < (cnL m b).length ∧ fn (cnL m b) c = d) := fun d hd => by
    by_cases h : (d : Int) ∈ m.nodes
    · obtain ⟨x, hx, e⟩ := mem_nth h
      exact .inl ⟨x, by omega, by rw [fn, e]; rfl⟩
    · obtain ⟨c, hc, e⟩ := mem_nth (cn_mem.2 ⟨d, rfl, hd, .inl h⟩ : (d : Int) ∈ cnL m b)
      exact .inr ⟨c, hc, by rw [fn, e]; rfl⟩
  have coverE : ∀ d, d < b.edges.length → (∃ x, x < a.edges.length ∧ fn m.edges x = d) ∨ (∃ c, c < (cxL m b).length ∧ fn (cxL m b) c = d) := fun d hd => by
    by_cases h : (d : Int) ∈ m.edges
    · obtain ⟨x, hx, e⟩ := mem_nth h
      exact .inl ⟨x, by omega, by rw [fn, e]; rfl⟩
    · obtain ⟨c, hc, e⟩ := mem_nth (cx_mem.2 ⟨d, rfl, hd, h⟩ : (d : Int) ∈ cxL m b)
      exact .inr ⟨c, hc, by rw [fn, e]; rfl⟩
  have noE : ∀ x c, x < a.edges.length → c < (cxL m b).length → fn m.edges x = fn (cxL m b) c → False := fun x c hx hc e => by
    obtain ⟨e1, e2⟩ := fn_at pX hc
    obtain ⟨e3, e4⟩ := fn_at mo.re (show x < m.edges.length by omega)
    obtain ⟨y, hy, hy2, hy3⟩ := cx_mem.1 (nth_mem hc)
    have hm := nth_mem (l := m.edges) (k := x) (by omega)
    rw [e3, e, ← e1, hy] at hm
    exact hy3 hm
  refine ⟨hsq, comm_of F G mo K (fun i hi => cm i (by rw [← lA]; exact hi)) (fun i hi => ?_), ⟨?_, ?_⟩, ⟨?_, ?_⟩⟩
  · have : i < (exG a (inB m b)).edges.length := hi
    rw [lAe] at this
    omega
  · show PO (exG a (inB m b)).nodes.length a.nodes.length (exG b (inC m b)).nodes.length b.nodes.length (fn (bndL m b)) (fn (inG m b)) (fn m.nodes) (fn (cnL m b))
    rw [lA, lC]
    exact po_parts cm (fun c c' hc hc' e => fn_inj rfl pC nC hc hc' e) coverN both (fun x y hx hy e => .inl (fn_inj lm mo.rn mn hx hy e))
  · show PO (exG a (inB m b)).edges.length a.edges.length (exG b (inC m b)).edges.length b.edges.length (fn []) (fn []) (fn m.edges) (fn (cxL m b))
    rw [lAe, lCe]
    exact po_parts (fun i hi => absurd hi (by omega)) (fun c c' hc hc' e => fn_inj rfl pX nX hc hc' e) coverE (fun x c hx hc e => (noE x c hx hc e).elim) (fun x y hx hy e => .inl (fn_inj le mo.re me hx hy e))
  · show PB (exG a (inB m b)).nodes.length a.nodes.length (exG b (inC m b)).nodes.length (fn (bndL m b)) (fn (inG m b)) (fn m.nodes) (fn (cnL m b))
    rw [lA, lC]
    exact pb_parts cm (fun i j hi hj e => fn_inj rfl pB nB hi hj e) both
  · show PB (exG a (inB m b)).edges.length a.edges.length (exG b (inC m b)).edges.length (fn []) (fn []) (fn m.edges) (fn (cxL m b))
    rw [lAe, lCe]
    exact pb_parts (fun i hi => absurd hi (by omega)) (fun i j hi hj e => absurd hi (by omega)) (fun x c hx hc e => (noE x c hx hc e).elim)
theorem in_kind (h1 : morErr a b m = 0) (h2 : injB a b m = true) : kindR (inS a b m) = (0, 3) ∨ kindR (inS a b m) = (3, 0) := by
  obtain ⟨k1, k2, k3, k4⟩ := in_sq h1 h2
  have ok := sqErr_ok k1
  rcases un_errs ok.F.gb ok.G.gb with h | h
  · rcases kind_is k1 k2 h with e | e
    · exact .inl e
    · rw [if_pos k3, if_pos k4] at e
      exact .inr e
  · exact .inl (kind_too k1 k2 h)
end initial
end Go.Proofs.Ythapbbpdcjmmfaa

/- A graph is a pushout of L and the complement over what is kept. No program in sight. -/
namespace Go.Proofs.Ythapbbpdcjmmfaa
open Abs Po
set_option linter.unusedSimpArgs false
set_option linter.unusedVariables false

theorem restL_asc {n : Nat} {gone : List Int} : (restL n gone).Pairwise (· < ·) := collect_asc fun k x h => by
  unfold restF at h
  split at h
  · cases h
  · injection h with h
    exact h.symm
theorem restL_in {n : Nat} {gone : List Int} : placesIn (restL n gone) n := fun x hx => by
  obtain ⟨j, hj, e⟩ := mem_collect.1 hx
  unfold restF at e
  split at e
  · cases e
  · injection e with e
    omega

/-- The images of what is kept, as places in the complement. -/
def toL (im kp part : List Int) : List Int := kp.map fun x => idx part (nth im x.toNat)
section lists
variable {im kp : List Int} {n : Nat}
theorem no_pair (hp : pairsL im kp = []) {a b : Nat} (ha : a < im.length) (hb : b < im.length) (h : nth im a = nth im b) (hk : (b : Int) ∉ kp) : a = b := by
  rcases Nat.lt_trichotomy a b with e | e | e
  · have := mem_pairs.2 ⟨a, b, e, hb, h, fun hh => hk hh.2, rfl⟩
    rw [hp] at this
    cases this
  · exact e
  · have := mem_pairs.2 ⟨b, a, e, ha, h.symm, fun hh => hk hh.1, rfl⟩
    rw [hp] at this
    cases this
theorem kept_not_gone (hp : pairsL im kp = []) {a : Nat} (ha : a < im.length) (hk : (a : Int) ∈ kp) : nth im a ∉ goneL im kp := fun h => by
  obtain ⟨b, hb, hk2, e⟩ := mem_goneL.1 h
  rw [no_pair hp ha hb e.symm hk2] at hk
  exact hk2 hk
theorem kept_rest (hp : pairsL im kp = []) (hi : placesIn im n) {a : Nat} (ha : a < im.length) (hk : (a : Int) ∈ kp) : nth im a ∈ restL n (goneL im kp) := by
  obtain ⟨e1, e2⟩ := fn_at hi ha
  have := kept_not_gone hp ha hk
  rw [e1] at this ⊢
  exact (mem_restL e2).2 this
theorem toL_len {part : List Int} : (toL im kp part).length = kp.length := by simp [toL]
theorem toL_at (hp : pairsL im kp = []) (hi : placesIn im n) (hk : placesIn kp im.length) {i : Nat} (h : i < kp.length) :
    fn (toL im kp (restL n (goneL im kp))) i < (restL n (goneL im kp)).length ∧ nth (restL n (goneL im kp)) (fn (toL im kp (restL n (goneL im kp))) i) = nth im (fn kp i) := by
  obtain ⟨e1, e2⟩ := fn_at hk h
  have hm := nth_mem h
  rw [e1] at hm
  have e : nth (toL im kp (restL n (goneL im kp))) i = idx (restL n (goneL im kp)) (nth im (fn kp i)) := by
    rw [nth_eq (by rw [toL_len]; exact h)]
    simp only [toL, List.getElem_map]
    rw [← nth_eq h]
    rfl
  have := fn_idx (kept_rest hp hi e2 hm)
  rw [fn, e]
  exact this
theorem toL_in (hp : pairsL im kp = []) (hi : placesIn im n) (hk : placesIn kp im.length) : placesIn (toL im kp (restL n (goneL im kp))) (restL n (goneL im kp)).length := fun x hx => by
  simp only [toL, List.mem_map] at hx
  obtain ⟨y, hy, rfl⟩ := hx
  obtain ⟨i, h, rfl⟩ := mem_nth hy
  obtain ⟨e1, e2⟩ := fn_at hk h
  have hm := nth_mem h
  rw [e1] at hm
  have := idx_lt (kept_rest (n := n) hp hi e2 hm)
  exact ⟨this.1, this.2.1⟩
theorem toL_comm (hp : pairsL im kp = []) (hi : placesIn im n) (hk : placesIn kp im.length) {i : Nat} (h : i < kp.length) : fn im (fn kp i) = fn (restL n (goneL im kp)) (fn (toL im kp (restL n (goneL im kp))) i) := by
  rw [fn, ← (toL_at hp hi hk h).2]
  rfl
theorem list_po (hp : pairsL im kp = []) (hi : placesIn im n) (hk : placesIn kp im.length) : PO kp.length im.length (restL n (goneL im kp)).length n (fn kp) (fn (toL im kp (restL n (goneL im kp)))) (fn im) (fn (restL n (goneL im kp))) := by
  have nd : (restL n (goneL im kp)).Nodup := asc_nodup (asc_iff.2 restL_asc)
  have rin := restL_in (n := n) (gone := goneL im kp)
  refine po_parts (fun a ha => toL_comm hp hi hk ha) (fun c c' hc hc' e => fn_inj rfl rin nd hc hc' e) (fun d hd => ?_) (fun b c hb hc e => ?_) (fun b b' hb hb' e => ?_)
  · by_cases h : (d : Int) ∈ goneL im kp
    · obtain ⟨b, hb, _, e⟩ := mem_goneL.1 h
      exact .inl ⟨b, hb, by rw [fn, e]; rfl⟩
    · obtain ⟨c, hc, e⟩ := mem_nth ((mem_restL hd).2 h)
      exact .inr ⟨c, hc, by rw [fn, e]; rfl⟩
  · obtain ⟨e1, e2⟩ := fn_at hi hb
    obtain ⟨e3, e4⟩ := fn_at rin hc
    have hin := nth_mem hc
    rw [e3] at hin
    have hng := (mem_restL e4).1 hin
    have hbk : (b : Int) ∈ kp := Classical.byContradiction fun hn => hng (mem_goneL.2 ⟨b, hb, hn, by rw [e1, e]⟩)
    obtain ⟨a, ha, ea⟩ := mem_nth hbk
    have fa : fn kp a = b := by rw [fn, ea]; rfl
    refine ⟨a, ha, fa, ?_⟩
    obtain ⟨k1, k2⟩ := toL_at hp hi hk ha
    refine fn_inj rfl rin nd k1 hc ?_
    rw [fn, k2, fa, ← e]
    rfl
  · by_cases h : b = b'
    · exact .inl h
    · have eb : nth im b = nth im b' := by rw [(fn_at hi hb).1, (fn_at hi hb').1, e]
      have hbk : (b : Int) ∈ kp := Classical.byContradiction fun hn => h (no_pair hp hb' hb eb.symm hn).symm
      obtain ⟨c, hc, ec⟩ := mem_nth (kept_rest hp hi hb hbk)
      exact .inr ⟨c, hc, by rw [fn, ec]; rfl⟩
end lists

/-- The complement, and where what is kept goes in it. -/
def cmpP (g : Gr) (kp m : Pa) : Pa := ⟨restL g.nodes.length (goneL m.nodes kp.nodes), restL g.edges.length (goneL m.edges kp.edges)⟩
def cmpT (g : Gr) (kp m : Pa) : Pa := ⟨toL m.nodes kp.nodes (cmpP g kp m).nodes, toL m.edges kp.edges (cmpP g kp m).edges⟩
section cmp
variable {l g : Gr} {kp m : Pa}
theorem cmp_sub (mo : MorOk l g m) (ok : SubOk l kp) (p1 : pairsL m.nodes kp.nodes = []) (p3 : danglL g kp m = []) : SubOk g (cmpP g kp m) := by
  have l1 := mo.ln
  have l2 := mo.le
  refine ⟨mo.gb, asc_iff.2 restL_asc, asc_iff.2 restL_asc, restL_in, restL_in, fun x hx => ?_⟩
  obtain ⟨x1, x2⟩ := restL_in x hx
  obtain ⟨k, rfl⟩ := Int.eq_ofNat_of_zero_le x1
  have hk : k < g.edges.length := by omega
  have hng := (mem_restL hk).1 hx
  rw [Int.toNat_natCast]
  obtain ⟨_, _, q1, q2, q3, q4⟩ := mo.gb.edges _ (eth_mem hk)
  obtain ⟨a, ha⟩ := Int.eq_ofNat_of_zero_le q1
  obtain ⟨b, hb⟩ := Int.eq_ofNat_of_zero_le q3
  show (eth g.edges k).f ∈ restL g.nodes.length _ ∧ (eth g.edges k).g ∈ restL g.nodes.length _
  by_cases h : (k : Int) ∈ m.edges
  · obtain ⟨j, hj, e⟩ := mem_nth h
    have hjk : (j : Int) ∈ kp.edges := Classical.byContradiction fun hn => hng (mem_goneL.2 ⟨j, hj, hn, e⟩)
    obtain ⟨_, _, _, e1, e2⟩ := mo.e j (by omega)
    obtain ⟨d1, d2⟩ := ok.de _ hjk
    rw [e, Int.toNat_natCast] at e1 e2
    rw [Int.toNat_natCast] at d1 d2
    obtain ⟨_, _, r1, r2, r3, r4⟩ := mo.ga.edges _ (eth_mem (l := l.edges) (k := j) (by omega))
    obtain ⟨u, hu⟩ := Int.eq_ofNat_of_zero_le r1
    obtain ⟨v, hv⟩ := Int.eq_ofNat_of_zero_le r3
    rw [hu] at d1 e1 r2
    rw [hv] at d2 e2 r4
    rw [Int.toNat_natCast] at e1 e2
    rw [← e1, ← e2]
    exact ⟨kept_rest p1 mo.rn (by omega) d1, kept_rest p1 mo.rn (by omega) d2⟩
  · have hd : ¬ ((eth g.edges k).f ∈ goneL m.nodes kp.nodes ∨ (eth g.edges k).g ∈ goneL m.nodes kp.nodes) := fun hh => by
      have := mem_dangl.2 ⟨k, hk, h, hh, rfl⟩
      rw [p3] at this
      cases this
    rw [ha] at hd q2 ⊢
    rw [hb] at hd q4 ⊢
    exact ⟨(mem_restL (by omega)).2 fun hh => hd (.inl hh), (mem_restL (by omega)).2 fun hh => hd (.inr hh)⟩
/-- The span of what is kept. -/
def cmpS (l g : Gr) (kp m : Pa) : Sp := ⟨exG l kp, l, exG g (cmpP g kp m), kp, cmpT g kp m⟩
theorem exG_len {g : Gr} {p : Pa} : (exG g p).nodes.length = p.nodes.length ∧ (exG g p).edges.length = p.edges.length := by simp [exG]
theorem cmp_mor (mo : MorOk l g m) (ok : SubOk l kp) (p1 : pairsL m.nodes kp.nodes = []) (p2 : pairsL m.edges kp.edges = []) (p3 : danglL g kp m = []) : MorOk (exG l kp) (exG g (cmpP g kp m)) (cmpT g kp m) := by
  have sC := cmp_sub mo ok p1 p3
  have F := ex_mor ok
  have K := ex_mor sC
  have l1 := mo.ln
  have l2 := mo.le
  obtain ⟨a1, a2⟩ := exG_len (g := l) (p := kp)
  obtain ⟨c1, c2⟩ := exG_len (g := g) (p := cmpP g kp m)
  have kn : placesIn kp.nodes m.nodes.length := by rw [l1]; exact ok.rn
  have ke : placesIn kp.edges m.edges.length := by rw [l2]; exact ok.re
  have nC : (cmpP g kp m).nodes.Nodup := asc_nodup sC.an
  have atN : ∀ i, i < kp.nodes.length → fn (cmpT g kp m).nodes i < (cmpP g kp m).nodes.length ∧ nth (cmpP g kp m).nodes (fn (cmpT g kp m).nodes i) = nth m.nodes (fn kp.nodes i) := fun i hi => toL_at p1 mo.rn kn hi
  have atE : ∀ i, i < kp.edges.length → fn (cmpT g kp m).edges i < (cmpP g kp m).edges.length ∧ nth (cmpP g kp m).edges (fn (cmpT g kp m).edges i) = nth m.edges (fn kp.edges i) := fun i hi => toL_at p2 mo.re ke hi
  have pN : placesIn (cmpT g kp m).nodes (cmpP g kp m).nodes.length := toL_in p1 mo.rn kn
  have lT : (cmpT g kp m).nodes.length = kp.nodes.length := toL_len
  refine Hom.ok ⟨?_, ?_, ?_, ?_, fun i hi => ?_, fun i hi => ?_⟩ F.ga K.ga
  · rw [a1]; exact toL_len
  · rw [a2]; exact toL_len
  · rw [c1]; exact pN
  · rw [c2]; exact toL_in p2 mo.re ke
  · have f1 := F.hom.kn i hi
    rw [a1] at hi
    obtain ⟨k1, k2⟩ := atN i hi
    have d1 := K.hom.kn (fn (cmpT g kp m).nodes i) (by rw [c1]; exact k1)
    have d2 : fn (cmpP g kp m).nodes (fn (cmpT g kp m).nodes i) = fn m.nodes (fn kp.nodes i) := by rw [fn, k2]; rfl
    have d3 := mo.hom.kn (fn kp.nodes i) (by rw [← l1]; exact (fn_at kn hi).2)
    rw [← d1, ← f1, d2, d3]
  · obtain ⟨f1, f2, f3⟩ := F.hom.ke i hi
    obtain ⟨_, _, r1, r2, r3, r4⟩ := F.ga.edges _ (eth_mem hi)
    rw [a2] at hi
    rw [a1] at r2 r4
    obtain ⟨k1, k2⟩ := atE i hi
    have d2 : fn (cmpP g kp m).edges (fn (cmpT g kp m).edges i) = fn m.edges (fn kp.edges i) := by rw [fn, k2]; rfl
    obtain ⟨d1, d3, d4⟩ := K.hom.ke (fn (cmpT g kp m).edges i) (by rw [c2]; exact k1)
    obtain ⟨_, _, s1, s2, s3, s4⟩ := K.ga.edges _ (eth_mem (l := (exG g (cmpP g kp m)).edges) (k := fn (cmpT g kp m).edges i) (by rw [c2]; exact k1))
    rw [c1] at s2 s4
    rw [d2] at d1 d3 d4
    obtain ⟨m1, m2, m3⟩ := mo.hom.ke (fn kp.edges i) (by rw [← l2]; exact (fn_at ke hi).2)
    have same : ∀ x y : Int, 0 ≤ x → x < kp.nodes.length → 0 ≤ y → y < (cmpP g kp m).nodes.length → nth (cmpP g kp m).nodes y.toNat = nth m.nodes (nth kp.nodes x.toNat).toNat → y = nth (cmpT g kp m).nodes x.toNat := fun x y hx hx2 hy hy2 h => by
      obtain ⟨k1, k2⟩ := atN x.toNat (by omega)
      have e : y.toNat = fn (cmpT g kp m).nodes x.toNat := fn_inj rfl sC.rn nC (by omega) k1 (by
        show fn _ _ = fn _ _
        rw [fn, h, fn, k2]
        rfl)
      have := (fn_at pN (i := x.toNat) (by rw [lT]; omega)).1
      rw [this, ← e]
      omega
    refine ⟨?_, same _ _ r1 r2 s1 s2 ?_, same _ _ r3 r4 s3 s4 ?_⟩
    · rw [← d1, m1, f1]
    · rw [← d3, m2, f2]
    · rw [← d4, m3, f3]
/-- The complement's square is accepted. -/
theorem cmp_po (mo : MorOk l g m) (ok : SubOk l kp) (p1 : pairsL m.nodes kp.nodes = []) (p2 : pairsL m.edges kp.edges = []) (p3 : danglL g kp m = [])
    (hn : l.nodes.length + g.nodes.length ≤ 40) (he : l.edges.length + g.edges.length ≤ 80) : poChk (cmpS l g kp m) g m (cmpP g kp m) = true := by
  have sC := cmp_sub mo ok p1 p3
  have F := ex_mor ok
  have K := ex_mor sC
  have G := cmp_mor mo ok p1 p2 p3
  have l1 := mo.ln
  have l2 := mo.le
  obtain ⟨a1, a2⟩ := exG_len (g := l) (p := kp)
  obtain ⟨c1, c2⟩ := exG_len (g := g) (p := cmpP g kp m)
  have kn : placesIn kp.nodes m.nodes.length := by rw [l1]; exact ok.rn
  have ke : placesIn kp.edges m.edges.length := by rw [l2]; exact ok.re
  have b1 := asc_len sC.an sC.rn
  have b2 := asc_len sC.ae sC.re
  have cm : commB ⟨exG l kp, l, exG g (cmpP g kp m), g, kp, cmpT g kp m, m, cmpP g kp m⟩ = true := comm_of F G mo K (fun i hi => toL_comm p1 mo.rn kn (by rw [← a1]; exact hi)) (fun i hi => toL_comm p2 mo.re ke (by rw [← a2]; exact hi))
  refine (poChk_iff ?_).2 ⟨?_, ?_⟩
  · have e0 : spErr (cmpS l g kp m) = 0 := by
      show (if morErr (exG l kp) l kp = 0 then morErr (exG l kp) (exG g (cmpP g kp m)) (cmpT g kp m) else morErr (exG l kp) l kp) = 0
      rw [if_pos (mor_zero F)]
      exact mor_zero G
    rw [pmE, if_pos e0, if_pos (show morErr (cmpS l g kp m).B g m = 0 from mor_zero mo), if_pos (show morErr (cmpS l g kp m).C g (cmpP g kp m) = 0 from mor_zero K),
      if_pos (show unErr (cmpS l g kp m).B (cmpS l g kp m).C = 0 from un_zero mo.ga K.ga (show l.nodes.length + (exG g (cmpP g kp m)).nodes.length ≤ 40 by rw [c1]; omega) (show l.edges.length + (exG g (cmpP g kp m)).edges.length ≤ 80 by rw [c2]; omega)), if_pos (show sameP (thenP (cmpS l g kp m).F m) (thenP (cmpS l g kp m).G (cmpP g kp m)) = true from cm)]
  · show PO (exG l kp).nodes.length l.nodes.length (exG g (cmpP g kp m)).nodes.length g.nodes.length (fn kp.nodes) (fn (cmpT g kp m).nodes) (fn m.nodes) (fn (cmpP g kp m).nodes)
    rw [a1, c1, ← l1]
    exact list_po p1 mo.rn kn
  · show PO (exG l kp).edges.length l.edges.length (exG g (cmpP g kp m)).edges.length g.edges.length (fn kp.edges) (fn (cmpT g kp m).edges) (fn m.edges) (fn (cmpP g kp m).edges)
    rw [a2, c2, ← l2]
    exact list_po p2 mo.re ke
end cmp
end Go.Proofs.Ythapbbpdcjmmfaa

/- The law of pushouts over complements. -/
namespace Go.Proofs.Ythapbbpdcjmmfaa
open Abs Po
set_option linter.unusedSimpArgs false
set_option linter.unusedVariables false
attribute [local simp] rn0 rn1 rn2 rn3 rn4 rn5 rn6 rn7 evOp nests Arg.ev St.val St.set St.new sliceOf binInt2 binInt AV.cells rdAt St.live retOf resOf resAll treeOf treeCell treeCells treeTups untree frameOf TV.av TR.av ints edgs prs fillV splice intsOf trees V1.tree bx Gr.v Pa.v opRd opWr opNew opNewR opArgs argsRd argRd Arg.rd AV.refs V1.refs refsL dstL

theorem sub_ok0 {g : Gr} {p : Pa} (h : SubOk g p) : subErr g p = 0 := sub_zero (gErr_of h.gr) h.an h.ae h.rn h.re h.de
theorem toK_succ {im kp part : List Int} {k : Nat} (h : k < kp.length) : toL im (kp.take (k + 1)) part = toL im (kp.take k) part ++ [idx part (nth im (nth kp k).toNat)] := by
  rw [toL, take_succ_nth' h]
  simp [toL]
theorem toK_len {im kp part : List Int} {k : Nat} (h : k ≤ kp.length) : (toL im (kp.take k) part).length = k := by simp [toL]; omega

def c_lawPushout : MFunc := ⟨130, [.tmp 6], .seq (.region [⟨some 3, .box 0 41 (.tmp 0), none⟩, ⟨some 6, .mv (.c (.one (.t (.bool false)))), none⟩]) (.seq (.seq (.region [⟨some 21, .call (.c (.one (.fn 10 []))) 64 [], none⟩, ⟨some 22, .not (.tmp 21), none⟩]) (.cond (.tmp 22) (.seq (.region [⟨some 6, .mv (.c (.one (.t (.bool false)))), none⟩]) .ret) .skip)) (.seq (.region [⟨some 23, .load true 2 (.tmp 3), none⟩, ⟨some 24, .mv (.tmp 1), none⟩, ⟨some 25, .mv (.tmp 2), none⟩, ⟨some 26, .call (.c (.one (.fn 18 []))) 195 [.tmp 23, .tmp 24, .tmp 25], none⟩, ⟨some 7, .alloc 196 30 [.nil, .nil, .nil, .nil, .nil, .nil, .nil, .nil], none⟩, ⟨none, .store 8 (.tmp 7) (.tmp 26), none⟩]) (.seq (.region [⟨some 28, .fieldA 0 (.tmp 7), none⟩, ⟨some 29, .load true 2 (.tmp 28), none⟩, ⟨some 30, .fieldA 2 (.tmp 7), none⟩, ⟨some 31, .load true 2 (.tmp 30), none⟩, ⟨some 32, .fieldA 4 (.tmp 7), none⟩, ⟨some 33, .load true 2 (.tmp 32), none⟩, ⟨some 34, .fieldA 6 (.tmp 7), none⟩, ⟨some 35, .load true 2 (.tmp 34), none⟩, ⟨some 36, .call (.c (.one (.fn 12 []))) 264 [.tmp 29, .tmp 31, .tmp 33, .tmp 35], none⟩, ⟨some 27, .mv (.tmp 36), none⟩, ⟨some 37, .extract (.tmp 27) 0, none⟩, ⟨some 38, .extract (.tmp 27) 1, none⟩, ⟨some 8, .alloc 268 27 [.nil, .nil], none⟩, ⟨none, .store 2 (.tmp 8) (.tmp 37), none⟩, ⟨some 9, .mv (.tmp 38), none⟩]) (.seq (.seq (.region [⟨some 39, .mv (.tmp 9), none⟩, ⟨some 40, .bin .neq (.tmp 39) (.c (.one (.t (.int .i64 0)))), none⟩]) (.cond (.tmp 40) (.seq (.region [⟨some 41, .mv (.tmp 9), none⟩, ⟨some 42, .bin .eql (.tmp 41) (.c (.one (.t (.int .i64 15)))), none⟩, ⟨some 43, .mv (.tmp 42), none⟩, ⟨some 44, .mv (.tmp 9), some (43, false)⟩, ⟨some 45, .bin .eql (.tmp 44) (.c (.one (.t (.int .i64 14)))), some (43, false)⟩, ⟨some 46, .pick (.tmp 43) (.c (.one (.t (.bool true)))) (.tmp 45), none⟩, ⟨some 6, .mv (.tmp 46), none⟩]) .ret) .skip)) (.seq (.region [⟨some 48, .fieldA 0 (.tmp 7), none⟩, ⟨some 49, .load true 2 (.tmp 48), none⟩, ⟨some 50, .fieldA 4 (.tmp 7), none⟩, ⟨some 51, .load true 2 (.tmp 50), none⟩, ⟨some 52, .call (.c (.one (.fn 36 []))) 452 [.tmp 49, .tmp 51], none⟩, ⟨some 47, .mv (.tmp 52), none⟩, ⟨some 53, .extract (.tmp 47) 0, none⟩, ⟨some 54, .extract (.tmp 47) 1, none⟩, ⟨some 55, .extract (.tmp 47) 2, none⟩, ⟨some 10, .alloc 457 25 [.nil, .nil], none⟩, ⟨some 11, .alloc 458 28 [.nil, .nil], none⟩, ⟨none, .store 2 (.tmp 10) (.tmp 53), none⟩, ⟨none, .store 2 (.tmp 11) (.tmp 54), none⟩, ⟨some 12, .mv (.tmp 55), none⟩]) (.seq (.region [⟨some 57, .fieldA 2 (.tmp 7), none⟩, ⟨some 58, .load true 2 (.tmp 57), none⟩, ⟨some 59, .load true 2 (.tmp 8), none⟩, ⟨some 60, .call (.c (.one (.fn 36 []))) 515 [.tmp 58, .tmp 59], none⟩, ⟨some 56, .mv (.tmp 60), none⟩, ⟨some 61, .extract (.tmp 56) 0, none⟩, ⟨some 62, .extract (.tmp 56) 1, none⟩, ⟨some 63, .extract (.tmp 56) 2, none⟩, ⟨some 13, .alloc 520 25 [.nil, .nil], none⟩, ⟨some 14, .alloc 521 28 [.nil, .nil], none⟩, ⟨none, .store 2 (.tmp 13) (.tmp 61), none⟩, ⟨none, .store 2 (.tmp 14) (.tmp 62), none⟩, ⟨some 15, .mv (.tmp 63), none⟩]) (.seq (.seq (.region [⟨some 64, .mv (.tmp 12), none⟩, ⟨some 65, .bin .neq (.tmp 64) (.c (.one (.t (.int .i64 0)))), none⟩, ⟨some 66, .mv (.tmp 65), none⟩, ⟨some 67, .mv (.tmp 15), some (66, false)⟩, ⟨some 68, .bin .neq (.tmp 67) (.c (.one (.t (.int .i64 0)))), some (66, false)⟩, ⟨some 69, .pick (.tmp 66) (.c (.one (.t (.bool true)))) (.tmp 68), none⟩]) (.cond (.tmp 69) (.seq (.region [⟨some 6, .mv (.c (.one (.t (.bool false)))), none⟩]) .ret) .skip)) (.seq (.region [⟨some 70, .build [.nil, .nil] [], none⟩, ⟨some 16, .alloc 705 28 [.nil, .nil], none⟩, ⟨none, .store 2 (.tmp 16) (.tmp 70), none⟩]) (.seq (.seq (.region [⟨some 71, .fieldA 4 (.tmp 7), none⟩, ⟨some 72, .fieldA 0 (.tmp 71), none⟩, ⟨some 73, .load false 1 (.tmp 72), none⟩, ⟨some 74, .len (.tmp 73), none⟩, ⟨some 75, .mv (.c (.one (.t (.int .i64 0)))), none⟩]) (.block 0 (.loop (.seq (.region [⟨some 76, .bin .lss (.tmp 75) (.tmp 74), none⟩]) (.seq (.cond (.tmp 76) .skip (.exit 0)) (.seq (.block 1 (.seq (.region [⟨some 77, .idxA 1 (.tmp 73) (.tmp 75), none⟩, ⟨some 78, .load false 1 (.tmp 77), none⟩, ⟨some 18, .mv (.tmp 78), none⟩]) (.draw [[], [0], [], [2], [], [4], [5], [], [6, 7], [8], [3, 9], [10], [1, 11, 10], [0, 1, 2, 3, 4, 5, 6, 7, 8, 9, 10, 11, 12], [13, 12, 12, 0, 1, 2, 3, 4, 5, 6, 7, 8, 9, 10, 11, 12]] [⟨some 79, .fieldA 0 (.tmp 16), none⟩, ⟨some 80, .load false 1 (.tmp 79), none⟩, ⟨some 81, .fieldA 0 (.tmp 8), none⟩, ⟨some 82, .load false 1 (.tmp 81), none⟩, ⟨some 83, .fieldA 6 (.tmp 7), none⟩, ⟨some 84, .fieldA 0 (.tmp 83), none⟩, ⟨some 85, .load false 1 (.tmp 84), none⟩, ⟨some 86, .mv (.tmp 18), none⟩, ⟨some 87, .idxA 1 (.tmp 85) (.tmp 86), none⟩, ⟨some 88, .load false 1 (.tmp 87), none⟩, ⟨some 89, .call (.c (.one (.fn 37 []))) 970 [.tmp 82, .tmp 88], none⟩, ⟨some 90, .mkrow 971 3 1 1 [.t (.int .i64 0)] [(0, (1, .tmp 89))], none⟩, ⟨some 91, .append 972 3 1 8 (.tmp 80) (.tmp 90), none⟩, ⟨some 92, .fieldA 0 (.tmp 16), none⟩, ⟨none, .store 1 (.tmp 92) (.tmp 91), none⟩]))) (.region [⟨some 93, .bin .add (.tmp 75) (.c (.one (.t (.int .i64 1)))), none⟩, ⟨some 75, .mv (.tmp 93), none⟩]))))))) (.seq (.seq (.region [⟨some 94, .fieldA 4 (.tmp 7), none⟩, ⟨some 95, .fieldA 1 (.tmp 94), none⟩, ⟨some 96, .load false 1 (.tmp 95), none⟩, ⟨some 97, .len (.tmp 96), none⟩, ⟨some 98, .mv (.c (.one (.t (.int .i64 0)))), none⟩]) (.block 2 (.loop (.seq (.region [⟨some 99, .bin .lss (.tmp 98) (.tmp 97), none⟩]) (.seq (.cond (.tmp 99) .skip (.exit 2)) (.seq (.block 3 (.seq (.region [⟨some 100, .idxA 1 (.tmp 96) (.tmp 98), none⟩, ⟨some 101, .load false 1 (.tmp 100), none⟩, ⟨some 20, .mv (.tmp 101), none⟩]) (.draw [[], [0], [], [2], [], [4], [5], [], [6, 7], [8], [3, 9], [10], [1, 11, 10], [0, 1, 2, 3, 4, 5, 6, 7, 8, 9, 10, 11, 12], [13, 12, 12, 0, 1, 2, 3, 4, 5, 6, 7, 8, 9, 10, 11, 12]] [⟨some 102, .fieldA 1 (.tmp 16), none⟩, ⟨some 103, .load false 1 (.tmp 102), none⟩, ⟨some 104, .fieldA 1 (.tmp 8), none⟩, ⟨some 105, .load false 1 (.tmp 104), none⟩, ⟨some 106, .fieldA 6 (.tmp 7), none⟩, ⟨some 107, .fieldA 1 (.tmp 106), none⟩, ⟨some 108, .load false 1 (.tmp 107), none⟩, ⟨some 109, .mv (.tmp 20), none⟩, ⟨some 110, .idxA 1 (.tmp 108) (.tmp 109), none⟩, ⟨some 111, .load false 1 (.tmp 110), none⟩, ⟨some 112, .call (.c (.one (.fn 37 []))) 1290 [.tmp 105, .tmp 111], none⟩, ⟨some 113, .mkrow 1291 3 1 1 [.t (.int .i64 0)] [(0, (1, .tmp 112))], none⟩, ⟨some 114, .append 1292 3 1 8 (.tmp 103) (.tmp 113), none⟩, ⟨some 115, .fieldA 1 (.tmp 16), none⟩, ⟨none, .store 1 (.tmp 115) (.tmp 114), none⟩]))) (.region [⟨some 116, .bin .add (.tmp 98) (.c (.one (.t (.int .i64 1)))), none⟩, ⟨some 98, .mv (.tmp 116), none⟩]))))))) (.seq (.region [⟨some 117, .load true 2 (.tmp 10), none⟩, ⟨some 118, .fieldA 0 (.tmp 7), none⟩, ⟨some 119, .load true 2 (.tmp 118), none⟩, ⟨some 120, .load true 2 (.tmp 13), none⟩, ⟨some 121, .load true 2 (.tmp 11), none⟩, ⟨some 122, .load true 2 (.tmp 16), none⟩, ⟨some 123, .build [.nil, .nil, .nil, .nil, .nil, .nil, .nil, .nil, .nil, .nil] [(0, (2, .tmp 117)), (2, (2, .tmp 119)), (4, (2, .tmp 120)), (6, (2, .tmp 121)), (8, (2, .tmp 122))], none⟩, ⟨some 124, .fieldA 2 (.tmp 7), none⟩, ⟨some 125, .load true 2 (.tmp 124), none⟩, ⟨some 126, .fieldA 6 (.tmp 7), none⟩, ⟨some 127, .load true 2 (.tmp 126), none⟩, ⟨some 128, .load true 2 (.tmp 14), none⟩, ⟨some 129, .call (.c (.one (.fn 38 []))) 1420 [.tmp 123, .tmp 125, .tmp 127, .tmp 128], none⟩, ⟨some 6, .mv (.tmp 129), none⟩]) .ret)))))))))))⟩
theorem k_lawPushout : cFn Try.prog Try.f9 = some c_lawPushout := by kernel_rfl
set_option maxHeartbeats 8000000 in
theorem lawPushout_ok (d : Dr) (c : List Nat) (s : Nat) (hd : BoundD d) (hc : c.length ≤ 1048576) (hcs : ∀ x ∈ c, x < 256) : CallOK Try.prog 9 [d.v, byV c, u64V s] (.sv (false, [.bool true])) := by
  refine callOK_W (callS_W (by kernel_rfl) Try.func9 k_lawPushout (callable_of Try.func9 (by kernel_rfl)) (by simp [c_lawPushout]) ?_)
  have hp := mask_tiny (s := s) (mdG_ok (d := d))
  have ht := dTiny (d := d) (c := c) hp
  have hs := mask_sub (s := s) (mdG_ok (d := d))
  have h0 := dCase (d := d) (c := c) hs
  have mo := dMor (d := d) (c := c)
  have f1 := mdG_few (d := d)
  have f2 := dFew (d := d) (c := c)
  simp [c_lawPushout, byV, bys, Dr.v, u64V]
  refine callS_tree awake_ok ?_ ?_ ?_
  · rfl
  · rfl
  simp
  refine callS_tree (made12_ok d c s hd hc hcs) ?_ ?_ ?_
  · rfl
  · rfl
  generalize mdG d = l at *
  generalize dG d c = g at *
  generalize dM d c = m at *
  generalize maskP l s = kp at *
  simp [gluV]
  refine callS_tree (of_ok l g kp m ht) ?_ ?_ ?_
  · rfl
  · rfl
  rcases of_err h0 with h | h | h
  case inr.inl => simp [h]
  case inr.inr => simp [h]
  obtain ⟨p1, p2, p3, p4⟩ := of_zero h0 h
  have ok := sub_of hs
  have sC := cmp_sub mo ok p1 p3
  have acc := cmp_po mo ok p1 p2 p3 (by omega) (by omega)
  have p4 : (ofR l g kp m).1 = cmpP g kp m := p4
  have x1 : exR l kp = (exG l kp, kp, 0) := if_pos hs
  have x2 : exR g (cmpP g kp m) = (exG g (cmpP g kp m), cmpP g kp m, 0) := if_pos (sub_ok0 sC)
  have b1 := asc_len sC.an sC.rn
  have b2 := asc_len sC.ae sC.re
  have b3 := asc_len ok.an ok.rn
  have b4 := asc_len ok.ae ok.re
  have l1 := mo.ln
  have l2 := mo.le
  obtain ⟨a1, a2⟩ := exG_len (g := l) (p := kp)
  obtain ⟨c1, c2⟩ := exG_len (g := g) (p := cmpP g kp m)
  have tp : tinyP (cmpP g kp m) := ⟨by simp only [tiny]; omega, by simp only [tiny]; omega⟩
  have eT : cmpT g kp m = ⟨toL m.nodes kp.nodes (cmpP g kp m).nodes, toL m.edges kp.edges (cmpP g kp m).edges⟩ := rfl
  have eS : cmpS l g kp m = ⟨exG l kp, l, exG g (cmpP g kp m), kp, cmpT g kp m⟩ := rfl
  have ts : TinySp (cmpS l g kp m) := by
    refine ⟨⟨?_, ?_⟩, ht.tl, ⟨?_, ?_⟩, hp, ⟨?_, ?_⟩⟩
    · show (exG l kp).nodes.length ≤ _; omega
    · show (exG l kp).edges.length ≤ _; omega
    · show (exG g (cmpP g kp m)).nodes.length ≤ _; omega
    · show (exG g (cmpP g kp m)).edges.length ≤ _; omega
    · show (toL m.nodes kp.nodes (cmpP g kp m).nodes).length ≤ _; rw [toL_len]; omega
    · show (toL m.edges kp.edges (cmpP g kp m).edges).length ≤ _; rw [toL_len]; omega
  have r := poCheck_ok (cmpS l g kp m) g m (cmpP g kp m) ts ht.tg ht.tm tp
  rw [acc, eS, eT] at r
  generalize cmpP g kp m = q at *
  simp [h, p4]
  refine callS_tree (sextract_ok l kp ht.tl hp) ?_ ?_ ?_
  · rfl
  · rfl
  simp [x1, exT]
  refine callS_tree (sextract_ok g q ht.tg tp) ?_ ?_ ?_
  · rfl
  · rfl
  simp [x2, exT]
  generalize exG l kp = A at *
  generalize exG g q = X at *
  refine loopW_count 75 kp.nodes.length (fun k S => S.fr 7 = .one (.ptr (196, 0) 0) ∧ S.fr 8 = .one (.ptr (268, 0) 0) ∧ S.fr 10 = .one (.ptr (457, 0) 0) ∧ S.fr 11 = .one (.ptr (458, 0) 0) ∧ S.fr 13 = .one (.ptr (520, 0) 0) ∧ S.fr 14 = .one (.ptr (521, 0) 0) ∧ S.fr 16 = .one (.ptr (705, 0) 0) ∧
    S.fr 73 = .one (.t (ints kp.nodes)) ∧ S.fr 74 = .one (.t (.int .i64 kp.nodes.length)) ∧ S.ob (196, 0) = some (bx 30 ((gluV l g kp m).2.map .t)) ∧ S.ob (268, 0) = some (bx 27 (q.v.2.map .t)) ∧ S.ob (457, 0) = some (bx 25 (A.v.2.map .t)) ∧
    S.ob (458, 0) = some (bx 28 (kp.v.2.map .t)) ∧ S.ob (520, 0) = some (bx 25 (X.v.2.map .t)) ∧ S.ob (521, 0) = some (bx 28 (q.v.2.map .t)) ∧
    ∃ vN, S.ob (705, 0) = some (bx 28 [vN, .nil]) ∧ outR 972 3 1 (toL m.nodes (kp.nodes.take k) q.nodes).length ((toL m.nodes (kp.nodes.take k) q.nodes).map (.int .i64)) S.ob (.one vN)) (by omega) ?_ ?_ ?_
  · simp [toL, outR_nil, gluV]
  · rintro k S hlt hw hk ⟨f7, f8, f10, f11, f13, f14, f16, f73, f74, o1, o2, o3, o4, o5, o6, vN, o7, ho⟩
    obtain ⟨y1, y2⟩ := ok.rn _ (nth_mem hlt)
    obtain ⟨x, hx⟩ := Int.eq_ofNat_of_zero_le y1
    have hx2 : x < m.nodes.length := by omega
    have z := toK_len (im := m.nodes) (part := q.nodes) (k := k) (kp := kp.nodes) (by omega)
    have zs := toK_succ (im := m.nodes) (part := q.nodes) hlt
    rw [hx, Int.toNat_natCast] at zs
    have ho0 := ho
    rcases ho with ⟨u1, _, u3⟩ | ⟨u1, ga, u3, u4⟩
    all_goals
      cases u3
      simp [dw0, dw1, dw2, dw3, gluV, f7, f8, f10, f11, f13, f14, f16, f73, f74, o1, o2, o3, o4, o5, o6, o7, hk, hlt, drop_nth hlt, hx, hx2, drop_nth hx2]
      refine dCall_ok (index_ok q.nodes (nth m.nodes x) (by have := tp.1; exact this.small)) ?_ ?_ ?_
      · rfl
      · rfl
      simp [dw0, dw1, dw2, dw3, gluV, f7, f8, f10, f11, f13, f14, f16, f73, f74, o1, o2, o3, o4, o5, o6, o7, hk]
      refine kApp_grow (ts := [.int .i64 (idx q.nodes (nth m.nodes x))]) rfl (ho0.keep fun g => by simp) (by omega) rfl (by omega) (by omega) fun E hE hob hcnt => ?_
      obtain ⟨w, hu⟩ := hE.one
      rw [hu] at hE
      simp [dw0, dw1, dw2, dw3, gluV, f7, f8, f10, f11, f13, f14, f16, f73, f74, o1, o2, o3, o4, o5, o6, o7, hk, hob, hu]
      refine ⟨rfl, ?_⟩
      simp [gluV, f7, f8, f10, f11, f13, f14, f16, f73, f74, o1, o2, o3, o4, o5, o6, o7, hk, hw, hob, hu, zs]
      exact outR.keep (by simpa using hE) fun g => by simp
  · rintro S hk ⟨f7, f8, f10, f11, f13, f14, f16, f73, f74, o1, o2, o3, o4, o5, o6, vN, o7, hN⟩
    rw [List.take_length] at hN
    simp [gluV, f7, f8, f10, f11, f13, f14, f16, f73, f74, o1, o2, o3, o4, o5, o6, o7, hk]
    refine loopW_count 98 kp.edges.length (fun k S => S.fr 7 = .one (.ptr (196, 0) 0) ∧ S.fr 8 = .one (.ptr (268, 0) 0) ∧ S.fr 10 = .one (.ptr (457, 0) 0) ∧ S.fr 11 = .one (.ptr (458, 0) 0) ∧ S.fr 13 = .one (.ptr (520, 0) 0) ∧ S.fr 14 = .one (.ptr (521, 0) 0) ∧ S.fr 16 = .one (.ptr (705, 0) 0) ∧
      S.fr 96 = .one (.t (ints kp.edges)) ∧ S.fr 97 = .one (.t (.int .i64 kp.edges.length)) ∧ S.ob (196, 0) = some (bx 30 ((gluV l g kp m).2.map .t)) ∧ S.ob (268, 0) = some (bx 27 (q.v.2.map .t)) ∧ S.ob (457, 0) = some (bx 25 (A.v.2.map .t)) ∧
      S.ob (458, 0) = some (bx 28 (kp.v.2.map .t)) ∧ S.ob (520, 0) = some (bx 25 (X.v.2.map .t)) ∧ S.ob (521, 0) = some (bx 28 (q.v.2.map .t)) ∧
      outR 972 3 1 (toL m.nodes kp.nodes q.nodes).length ((toL m.nodes kp.nodes q.nodes).map (.int .i64)) S.ob (.one vN) ∧
      ∃ vE, S.ob (705, 0) = some (bx 28 [vN, vE]) ∧ outR 1292 3 1 (toL m.edges (kp.edges.take k) q.edges).length ((toL m.edges (kp.edges.take k) q.edges).map (.int .i64)) S.ob (.one vE)) (by omega) ?_ ?_ ?_
    · simp [toL, outR_nil, gluV, f7, f8, f10, f11, f13, f14, f16, f73, f74, o1, o2, o3, o4, o5, o6, o7]
      simpa [toL] using hN
    · rintro k S hlt hw hk ⟨f7, f8, f10, f11, f13, f14, f16, f96, f97, o1, o2, o3, o4, o5, o6, hN, vE, o7, ho⟩
      obtain ⟨y1, y2⟩ := ok.re _ (nth_mem hlt)
      obtain ⟨x, hx⟩ := Int.eq_ofNat_of_zero_le y1
      have hx2 : x < m.edges.length := by omega
      have z := toK_len (im := m.edges) (part := q.edges) (k := k) (kp := kp.edges) (by omega)
      have zs := toK_succ (im := m.edges) (part := q.edges) hlt
      rw [hx, Int.toNat_natCast] at zs
      have ho0 := ho
      rcases ho with ⟨u1, _, u3⟩ | ⟨u1, ga, u3, u4⟩
      all_goals
        cases u3
        simp [dw0, dw1, dw2, dw3, gluV, f7, f8, f10, f11, f13, f14, f16, f96, f97, o1, o2, o3, o4, o5, o6, o7, hk, hlt, drop_nth hlt, hx, hx2, drop_nth hx2]
        refine dCall_ok (index_ok q.edges (nth m.edges x) (by have := tp.2; exact this.small)) ?_ ?_ ?_
        · rfl
        · rfl
        simp [dw0, dw1, dw2, dw3, gluV, f7, f8, f10, f11, f13, f14, f16, f96, f97, o1, o2, o3, o4, o5, o6, o7, hk]
        refine kApp_grow (ts := [.int .i64 (idx q.edges (nth m.edges x))]) rfl (ho0.keep fun g => by simp) (by omega) rfl (by omega) (by omega) fun E hE hob hcnt => ?_
        obtain ⟨w, hu⟩ := hE.one
        rw [hu] at hE
        have hN2 := hN.keep (ob' := E.ob) fun g => by rw [hob _ _ (by decide)]; simp
        simp [dw0, dw1, dw2, dw3, gluV, f7, f8, f10, f11, f13, f14, f16, f96, f97, o1, o2, o3, o4, o5, o6, o7, hk, hob, hu]
        refine ⟨rfl, ?_⟩
        simp [gluV, f7, f8, f10, f11, f13, f14, f16, f96, f97, o1, o2, o3, o4, o5, o6, o7, hk, hw, hob, hu, zs]
        exact ⟨outR.keep (by simpa using hN2) fun g => by simp, outR.keep (by simpa using hE) fun g => by simp⟩
    · rintro S hk ⟨f7, f8, f10, f11, f13, f14, f16, f96, f97, o1, o2, o3, o4, o5, o6, hN, vE, o7, ho⟩
      rw [List.take_length] at ho
      simp [gluV, f7, f8, f10, f11, f13, f14, f16, f96, f97, o1, o2, o3, o4, o5, o6, o7, hk]
      generalize toL m.nodes kp.nodes q.nodes = tN at *
      generalize toL m.edges kp.edges q.edges = tE at *
      rcases hN with ⟨n1, n2, n3⟩ | ⟨n1, gN, n3, n4⟩ <;> rcases ho with ⟨m1, m2, m3⟩ | ⟨m1, gE, m3, m4⟩
      all_goals
        cases n3
        cases m3
      · have z1 : tN = [] := List.eq_nil_of_length_eq_zero n1
        have z2 : tE = [] := List.eq_nil_of_length_eq_zero m1
        rw [z1, z2] at r
        refine callS_tree r ?_ ?_ ?_
        · rfl
        · rfl
        simp [o7]
      · have z1 : tN = [] := List.eq_nil_of_length_eq_zero n1
        rw [z1] at r
        refine callS_freeze [(1292, gE)] (callS_tree r ?_ ?_ ?_)
        · simp [argTrees, argTree, frzAll, frzOne, m4, untreeT, untreeI, Sp.v, Sp.cs]
        · simp [frzAll, frzOne, m4, AV.still, V1.still]
        simp [o7]
      · have z2 : tE = [] := List.eq_nil_of_length_eq_zero m1
        rw [z2] at r
        refine callS_freeze [(972, gN)] (callS_tree r ?_ ?_ ?_)
        · simp [argTrees, argTree, frzAll, frzOne, n4, untreeT, untreeI, Sp.v, Sp.cs]
        · simp [frzAll, frzOne, n4, AV.still, V1.still]
        simp [o7]
      · refine callS_freeze [(972, gN), (1292, gE)] (callS_tree r ?_ ?_ ?_)
        · simp [argTrees, argTree, frzAll, frzOne, n4, m4, untreeT, untreeI, Sp.v, Sp.cs]
        · simp [frzAll, frzOne, n4, m4, AV.still, V1.still]
        simp [o7]
end Go.Proofs.Ythapbbpdcjmmfaa

/- Descriptions, lists of bytes and words as arguments, opened. -/
namespace Go.Proofs.Ythapbbpdcjmmfaa
open Abs
open Go.ChangeShapes Go.WideShapes Go.RowKit
set_option linter.unusedSimpArgs false
set_option linter.unusedVariables false

theorem oB : OpensB Try.prog 38 := fun H enc w base spare held fuel cs x h => open_by_list Try.underlying38 Try.underlying5 (by kernel_rfl) h
theorem oT : OpensT Try.prog 39 := fun H enc w base spare held fuel cs x h => open_t3_list Try.underlying39 Try.underlying113 Try.underlying5 (by kernel_rfl) (by kernel_rfl) h

theorem oD : OpensD Try.prog 41 := opensD Try.underlying41 ⟨rfl, rfl, rfl, rfl⟩ (by kernel_rfl) (by kernel_rfl) (by kernel_rfl) oB oT

theorem open_draft {H : Type} {enc : TypeId × Value → H} {w : World} {base : Nat} {spare : Nat → Bool} {held : Bool} {v : Value} {d : DataW H} {ps : List MemPlace} (h : DataW.Trod enc Try.prog w base spare held 41 v d ps)
    (hw : (d.weights Try.prog 41).all (· ≤ reachBytes) = true) : ∃ x : Dr, TVR w (fun _ => False) x.v v ∧ BoundD x := oD _ _ _ _ _ _ _ _ _ h

theorem open_bytes {H : Type} {enc : TypeId × Value → H} {w : World} {base : Nat} {spare : Nat → Bool} {held : Bool} {v : Value} {d : DataW H} {ps : List MemPlace} (h : DataW.Trod enc Try.prog w base spare held 38 v d ps)
    (hw : (d.weights Try.prog 38).all (· ≤ reachBytes) = true) (hs : ∃ a len cap, v = Value.slice a len cap) : ∃ x, TVR w (fun _ => False) (byV x) v ∧ BoundB x ∧ (x = [] ∨ ∃ es sp, d = .slice es sp ∧ es.length = x.length) := by
  obtain ⟨a, len, cap, rfl⟩ := hs
  exact opens_bytes oB h fun _ => rfl

theorem open_u64 {H : Type} {enc : TypeId × Value → H} {w : World} {base : Nat} {spare : Nat → Bool} {held : Bool} {v : Value} {d : DataW H} {ps : List MemPlace} (h : DataW.Trod enc Try.prog w base spare held 42 v d ps)
    (hw : (d.weights Try.prog 42).all (· ≤ reachBytes) = true) (hs : ∃ n, v = Value.int .u64 n) : ∃ x, TVR w (fun _ => False) (u64V x) v ∧ BoundU x := by
  obtain ⟨n, rfl⟩ := hs
  exact opens_u64 Try.underlying42 h fun _ => rfl

theorem open_u64s {H : Type} {enc : TypeId × Value → H} {w : World} {base : Nat} {spare : Nat → Bool} {held : Bool} {v : Value} {d : DataW H} {ps : List MemPlace} (h : DataW.Trod enc Try.prog w base spare held 58 v d ps)
    (hw : (d.weights Try.prog 58).all (· ≤ reachBytes) = true) : ∃ x, TVR w (fun _ => False) (u642V x) v ∧ BoundUU x := opens_u64s Try.underlying58 Try.underlying42 (by kernel_rfl) (by kernel_rfl) h

end Go.Proofs.Ythapbbpdcjmmfaa

/- What the bound of the second form gives. -/
namespace Go.Proofs.Ythapbbpdcjmmfaa
theorem bulk_one {H : Type} (d : DataW H) : 1 ≤ Rows.uptoBulk d := by
  cases d with
  | lit l => cases l <;> simp [Rows.uptoBulk]
  | nil => simp [Rows.uptoBulk]
  | ptr d => simp [Rows.uptoBulk]
  | slice elems spare => simp [Rows.uptoBulk]
  | agg parts => simp [Rows.uptoBulk]
  | iface t d => simp [Rows.uptoBulk]
  | map entries => simp [Rows.uptoBulk]
  | held h => simp [Rows.uptoBulk]
theorem bulk_part {H : Type} {d : DataW H} {l : List (DataW H)} (h : d ∈ l) : Rows.uptoBulk d ≤ Rows.uptoBulkAll l := by
  induction l with
  | nil => cases h
  | cons x r ih =>
    simp only [Rows.uptoBulkAll]
    cases List.mem_cons.1 h with
    | inl e => subst e; omega
    | inr e => have := ih e; omega
theorem bulk_len {H : Type} (l : List (DataW H)) : l.length ≤ Rows.uptoBulkAll l := by
  induction l with
  | nil => simp [Rows.uptoBulkAll]
  | cons x r ih => have := bulk_one x; simp only [Rows.uptoBulkAll, List.length_cons]; omega
theorem bulk_bound {H : Type} {l : List (DataW H)} (h : Rows.uptoSmall H l = true) : Rows.uptoBulkAll l ≤ 1048576 := of_decide_eq_true h
/-- A list's length under the bound. -/
theorem bulk_list {H : Type} {l : List (DataW H)} {d : DataW H} {x : List Nat} (h : Rows.uptoSmall H l = true) (hm : d ∈ l) (hd : x = [] ∨ ∃ es sp, d = .slice es sp ∧ es.length = x.length) : x.length ≤ 1048576 := by
  rcases hd with rfl | ⟨es, sp, rfl, he⟩
  · simp
  · have h1 := bulk_bound h
    have h2 := bulk_part hm
    have h3 := bulk_len es
    simp only [Rows.uptoBulk] at h2
    omega
end Go.Proofs.Ythapbbpdcjmmfaa

/- The row of ComplementPushout, closed, if the law answers true for every input. -/
namespace Go.Proofs.Ythapbbpdcjmmfaa
open Abs
open Go.ChangeShapes Go.WideShapes Go.ChangeAt Go.RowKit
set_option linter.unusedSimpArgs false
set_option linter.unusedVariables false

namespace complementPushout
/-- What the law is to answer. -/
def Law : Prop := ∀ (x0 : Dr) (x1 : List Nat) (x2 : Nat), BoundD x0 → BoundB x1 → x1.length ≤ 1048576 → BoundU x2 → CallOK Try.prog 9 [x0.v, byV x1, u64V x2] (.sv (false, [.bool true]))

theorem calls (h : Law) {H : Type} {enc : TypeId × Value → H} {w : World} {base : Nat} {spare : Nat → Bool} {held : Bool} {v0 v1 v2 : Value} {d0 d1 d2 : DataW H} {p0 p1 p2 : List MemPlace}
    (h0 : DataW.Trod enc Try.prog w base spare held 41 v0 d0 p0) (hw0 : (d0.weights Try.prog 41).all (· ≤ reachBytes) = true)
    (h1 : DataW.Trod enc Try.prog w base spare held 38 v1 d1 p1) (hw1 : (d1.weights Try.prog 38).all (· ≤ reachBytes) = true) (hs1 : ∃ a len cap, v1 = Value.slice a len cap)
    (h2 : DataW.Trod enc Try.prog w base spare held 42 v2 d2 p2) (hw2 : (d2.weights Try.prog 42).all (· ≤ reachBytes) = true) (hs2 : ∃ n, v2 = Value.int .u64 n)
    (hu : Rows.uptoSmall H [d0, d1, d2] = true)
    : Calls Try.prog 9 #[v0, v1, v2] w fun e w' => e = .returned (.bool true) ∧ Below w.heap.size w w' := by
  obtain ⟨x0, hx0, hb0⟩ := open_draft h0 hw0
  obtain ⟨x1, hx1, hb1, hc1⟩ := open_bytes h1 hw1 hs1
  obtain ⟨x2, hx2, hb2⟩ := open_u64 h2 hw2 hs2
  refine ((h x0 x1 x2 hb0 hb1 (bulk_list hu (by simp) hc1) hb2).2 w (fun _ => False) #[v0, v1, v2] (fun b hb => hb.elim) rfl (fun j s u hs hu => ?_)).mono ?_
  · match j, hs, hu with
    | 0, hs, hu =>
      simp at hs hu
      subst hs hu
      exact hx0
    | 1, hs, hu =>
      simp at hs hu
      subst hs hu
      exact hx1
    | 2, hs, hu =>
      simp at hs hu
      subst hs hu
      exact hx2
    | j + 3, hs, _ => simp at hs
  · rintro e w' ⟨u, rfl, hu, hbel⟩
    obtain ⟨c, hc, hc2⟩ := hu
    simp at hc
    subst hc
    cases hc2
    exact ⟨rfl, hbel⟩

set_option maxRecDepth 100000 in
theorem lifted (law : Law) (os : Os) (started : os.Started) (H : Type) (enc : TypeId × Value → H) (F : Stop.Interp) :
    ReturnsInHanded {} Try.checked os 9 .any ((Rows.OpenSpec.upto Rows.complementPushoutSpec).pre6 enc Try.prog Try.f9 Rows.complementPushoutUptoRow.domain false) (((Rows.OpenSpec.upto Rows.complementPushoutSpec).at F).post enc Try.prog Try.f9 false true false false) := by
  refine returnsInHanded_of_cond_sized (C := Try.checked) (s := Rows.OpenSpec.upto Rows.complementPushoutSpec) (k := Rows.uptoSmall) rfl own started (by kernel_rfl) Try.func9
    (OpenSpec.witness (enc := enc) (C := Try.checked) (s := Rows.OpenSpec.upto Rows.complementPushoutSpec) (k := Rows.uptoSmall) rfl false ⟨#[], #[.agg #[.slice none 0 0, .slice none 0 0], .slice none 0 0, .int .u64 0], []⟩ 8 (by kernel_rfl) (by kernel_rfl) (by kernel_rfl) (x := ([.agg [.nil, .nil], .nil, .lit (.int .u64 0)], [], [])) (by kernel_rfl) rfl (by kernel_rfl)) ?_
  intro W base args ds gs before hval0 hW hcnd hk hsz0 _
  have hsz : (DataW.weightsEach Try.prog (Try.f9.params.toList ++ Rows.complementPushoutSpec.plain.varTypes Try.prog) (ds ++ gs)).all (· ≤ reachBytes) = true := hsz0
  have hW' := hW
  obtain ⟨p, q, hA0, hV, rfl, hfz, hnd⟩ := hW
  have hA : DataW.TrodAll enc Try.prog W 0 (fun _ => true) true Try.f9.params.toList args.toList ds p := hA0
  rw [Try.params9] at hA hsz
  obtain ⟨v0, vs0, d0, ds0, p0, q0, hargs0, rfl, rfl, h0, r0⟩ := trodAll_cons hA
  obtain ⟨v1, vs1, d1, ds1, p1, q1, hargs1, rfl, rfl, h1, r1⟩ := trodAll_cons r0
  obtain ⟨v2, vs2, d2, ds2, p2, q2, hargs2, rfl, rfl, h2, r2⟩ := trodAll_cons r1
  obtain ⟨rfl, rfl, rfl⟩ := trodAll_nil r2
  obtain rfl : args = #[v0, v1, v2] := by cases args; simp_all
  obtain ⟨rfl, rfl⟩ := trodVars_none hV
  have hw0 : (d0.weights Try.prog 41).all (· ≤ reachBytes) = true := by
    refine List.all_eq_true.2 fun n hn => List.all_eq_true.1 hsz n ?_
    exact DataW.weights_mem_each (j := 0) (t := 41) (d := d0) rfl rfl n hn
  have lt0 : ∀ x ∈ p0, x.block < W.heap.size := by obtain ⟨m, hm⟩ := h0; exact DataW.trod_lt m _ _ _ hm
  have hw1 : (d1.weights Try.prog 38).all (· ≤ reachBytes) = true := by
    refine List.all_eq_true.2 fun n hn => List.all_eq_true.1 hsz n ?_
    exact DataW.weights_mem_each (j := 1) (t := 38) (d := d1) rfl rfl n hn
  have lt1 : ∀ x ∈ p1, x.block < W.heap.size := by obtain ⟨m, hm⟩ := h1; exact DataW.trod_lt m _ _ _ hm
  have hw2 : (d2.weights Try.prog 42).all (· ≤ reachBytes) = true := by
    refine List.all_eq_true.2 fun n hn => List.all_eq_true.1 hsz n ?_
    exact DataW.weights_mem_each (j := 2) (t := 42) (d := d2) rfl rfl n hn
  have lt2 : ∀ x ∈ p2, x.block < W.heap.size := by obtain ⟨m, hm⟩ := h2; exact DataW.trod_lt m _ _ _ hm
  have hs1 := okWide_slice Try.underlying38 (hval0 1 _ _ (by rw [← Array.getElem?_toList, Try.params9]; rfl) rfl)
  have hs2 := okWide_int Try.underlying42 (hval0 2 _ _ (by rw [← Array.getElem?_toList, Try.params9]; rfl) rfl)
  clear hA0 hval0 hsz0 hsz
  show Calls Try.prog 9 #[v0, v1, v2] W fun e W' => ∃ v, e = .returned v ∧ Rows.complementPushoutSpec.post enc Try.prog Try.f9 false true false false W #[v0, v1, v2] v W'
  refine (calls law h0 hw0 h1 hw1 hs1 h2 hw2 hs2 (by simpa using hk)).mono fun e W' ⟨he, bel⟩ => ?_
  subst he
  exact ⟨_, rfl, _, _, _, [], _, [], hW', trodAll_mk1 (shut_bool Try.underlying4 _), (trodAll_cons_mk (Below.trod laidOut (by kernel_rfl) (of_decide_eq_true (by kernel_rfl)) h0 bel lt0) (trodAll_cons_mk (Below.trod laidOut (by kernel_rfl) (of_decide_eq_true (by kernel_rfl)) h1 bel lt1) (trodAll_cons_mk (Below.trod laidOut (by kernel_rfl) (of_decide_eq_true (by kernel_rfl)) h2 bel lt2) trodAll_mk0))), rfl, bel.frame _, fun h => by cases h⟩

theorem over (law : Law) : Rows.complementPushoutUptoRow.holds Try.pinned (Rows.OpenSpec.upto Rows.complementPushoutSpec) :=
  OpenClaim.holds_of_cond 9 Try.f9 rfl rfl rfl rfl rfl rfl rfl ⟨rfl, rfl, rfl, rfl, rfl⟩ rfl rfl rfl rfl rfl (by kernel_rfl) Try.func9 (by kernel_rfl)
    (of_decide_eq_true (by kernel_rfl)) (by unfold Func.isWrapper; first | (rw [if_pos (by decide +kernel)]; kernel_rfl) | (rw [if_neg (by decide +kernel)]; exact ⟨rfl, rfl⟩))
    (fun os started H enc _ F => lifted law os started H enc F)
end complementPushout
end Go.Proofs.Ythapbbpdcjmmfaa

/- ComplementPushout answers true where the arguments are of bulk at most 1048576. -/
namespace Go.Proofs.Ythapbbpdcjmmfaa
open Abs
theorem complementPushout_upto : Rows.ComplementPushoutUptoSaid := complementPushout.over fun d c s hd hc hn _ => lawPushout_ok d c s hd hn hc.1
end Go.Proofs.Ythapbbpdcjmmfaa
