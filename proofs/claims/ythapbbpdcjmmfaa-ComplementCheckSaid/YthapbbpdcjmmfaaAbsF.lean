/-
  The rule for regions whose order is open is sound. No condition beyond those that each statement names.
-/
import Derived.Test.YthapbbpdcjmmfaaAbsE
namespace Go.Proofs.Ythapbbpdcjmmfaa.Abs
open Go.RowKit
set_option linter.unusedVariables false
set_option linter.unusedSimpArgs false

theorem filter_lt {α : Type} (p q : α → Bool) : ∀ (l : List α), (∀ x ∈ l, q x = true → p x = true) → (∃ x ∈ l, p x = true ∧ q x = false) → (l.filter q).length < (l.filter p).length
  | [], _, h => by obtain ⟨x, hx, _⟩ := h; cases hx
  | y :: l, h, h' => by
    have le : ∀ (l : List α), (∀ x ∈ l, q x = true → p x = true) → (l.filter q).length ≤ (l.filter p).length := by
      intro l
      induction l with
      | nil => intro _; simp
      | cons z l ih =>
        intro hl
        have := ih fun x hx => hl x (List.mem_cons_of_mem _ hx)
        have hz := hl z (List.mem_cons_self ..)
        cases hq : q z <;> cases hp : p z <;> simp [List.filter_cons, hq, hp] <;> first | omega | (rw [hq, hp] at hz; simp at hz)
    obtain ⟨x, hx, h1, h2⟩ := h'
    have hy := h y (List.mem_cons_self ..)
    rcases List.mem_cons.1 hx with rfl | hx
    · have := le l fun x hx => h x (List.mem_cons_of_mem _ hx)
      simp [List.filter_cons, h1, h2]
      omega
    · have := filter_lt p q l (fun x hx => h x (List.mem_cons_of_mem _ hx)) ⟨x, hx, h1, h2⟩
      cases hq : q y <;> cases hp : p y <;> simp [List.filter_cons, hq, hp] <;> first | omega | (rw [hq, hp] at hy; simp at hy)

theorem indep_spec {C : List (List Nat)} {L : Log} (h : indep C L = true) {i j : Nat} (hi : i < L.length) (hj : j < L.length) (hne : i ≠ j) :
    j ∈ C.getD i [] ∨ i ∈ C.getD j [] ∨ (∀ l, l ∈ (L.getD i ([], [])).2 → l ∉ (L.getD j ([], [])).1 ∧ l ∉ (L.getD j ([], [])).2) := by
  unfold indep at h
  rw [List.all_eq_true] at h
  have h := h i (List.mem_range.2 hi)
  rw [List.all_eq_true] at h
  have h := h j (List.mem_range.2 hj)
  simp only [Bool.or_eq_true, beq_iff_eq, List.contains_eq_mem, decide_eq_true_eq, Bool.and_eq_true, disj, List.all_eq_true, Bool.not_eq_true', decide_eq_false_iff_not] at h
  rcases h with ((h | h) | h) | h
  · exact absurd h hne
  · exact .inl h
  · exact .inr (.inl h)
  · exact .inr (.inr fun l hl => ⟨h.1 l hl, h.2 l hl⟩)

section
variable {P : Program} {a : Act} {w w0 : World} {I : Ini} {Zc : Nat → Prop} {N : Nat} {m : Map} {S : St}

theorem awp_of_dOp {o : MOp} {E : Eff} (h : dOp P S o E) : awpOp P o S fun v ob cnt => v = E.v ∧ ob = E.ob ∧ cnt = E.cnt := by
  cases o with
  | call f nm args =>
    obtain ⟨g, targs, h1, h2, ⟨r, h3, h4, rfl⟩ | ⟨typ, esz, n, cs, h3, rfl⟩⟩ := h
    · exact ⟨g, [], h1, callS_tree h3 (by simpa using h2) (by simpa using h4) ⟨rfl, rfl, rfl⟩⟩
    · refine ⟨g, [], h1, callS_row nm h3 (by simpa using h2) ?_⟩
      unfold rowEff
      by_cases hn : n = 0
      · simp only [if_pos hn]
        exact ⟨rfl, rfl, rfl⟩
      · simp only [if_neg hn]
        exact ⟨rfl, rfl, rfl⟩
  | isnil => exact h.elim
  | mkfn => exact h.elim
  | _ => exact ⟨E, h, rfl, rfl, rfl⟩

theorem sim_below {w' : World} (s : Sim w0 I Zc N m S a w) (hb : Below w.heap.size w w') : Sim w0 I Zc N m S a w' :=
  ⟨hr_below s.heap hb, s.defers, s.size, fun t => AVR.ext (ext_below hb _) (s.fr t), s.past.trans (ext_below hb _)⟩

theorem cOpers_get {N : Nat} {all : List Oper} : ∀ (ol : List Oper) (nm : Nat) (l : List MOper), cOpers P N all nm ol = some l → l.length = ol.length ∧ ∀ (i : Nat) o, ol[i]? = some o → ∃ x nm', l[i]? = some x ∧ cOper P N nm' all o = some x
  | [], nm, l, h => by
    injection h with h; subst h
    exact ⟨rfl, fun i o hi => by simp at hi⟩
  | o :: r, nm, l, h => by
    simp only [cOpers, Option.bind_eq_some_iff, Option.map_eq_some_iff] at h
    obtain ⟨x, hx, l', hl, rfl⟩ := h
    obtain ⟨i1, i2⟩ := cOpers_get r _ l' hl
    refine ⟨by simp [i1], fun i o' hi => ?_⟩
    cases i with
    | zero =>
      have : o = o' := by simpa using hi
      subst this
      exact ⟨x, nm, rfl, hx⟩
    | succ i => exact i2 i o' (by simpa using hi)

/-- One operation of a region, wherever it comes. -/
theorem dom_wp {ops : Array Oper} {o : Oper} {x : MOper} {i nm : Nat} {T T' : St} {K : Act → World → Prop} {Qc : Exit → Act → World → Prop} (s : Sim w0 I Zc N m T a w) (hi : ops[i]? = some o) (hx : cOper P N nm ops.toList o = some x) (hd : DoM P x T T')
    (hK : ∀ m' a' w', Sim w0 I Zc N m' T' a' w' → K a' w') : wpOp P ops Qc i K a w := by
  obtain ⟨hdst, hxd, hmo, hg⟩ := dstOk_of hx
  have go : (∃ E, dOp P T x.op E ∧ T' = T.set x.dst E.v E.ob E.cnt) → o.wp P a w K Qc := by
    rintro ⟨E, he, rfl⟩
    refine op_wp s hmo (awp_of_dOp he) _ _ fun v u w' m' ob cnt hk h1 h2 h3 => ?_
    obtain ⟨rfl, rfl, rfl⟩ := hk
    refine hK m' _ w' ?_
    rw [hxd]
    exact sim_put s hdst h1 h2 h3
  unfold wpOp
  rw [hi]
  simp only
  unfold DoM at hd
  rcases hg with ⟨g1, g2⟩ | ⟨j, b, t, oj, g1, g2, g3, g4⟩
  · rw [g2] at hd
    rw [wanted_none g1, if_pos rfl]
    exact .inl (go hd)
  · rw [g4] at hd
    obtain ⟨b', hb, h⟩ := hd
    rw [wanted_some s g1 g2 g3 hb]
    rcases h with ⟨e, h⟩ | ⟨e, h⟩
    · rw [if_pos (by simpa using e)]
      exact .inl (go h)
    · rw [if_neg (by simpa using e)]
      refine hK m _ w ?_
      rw [h, hxd]
      exact sim_put s hdst s.heap (Ext.refl ..) rfl

theorem deps_get {ops : Array Oper} {i : Nat} {o : Oper} (h : ops[i]? = some o) : (ops.toList.map depsOf).getD i [] = depsOf o := by
  rw [List.getD_eq_getElem?_getD, List.getElem?_map, Array.getElem?_toList, h]
  rfl

theorem ready_deps {ops : Array Oper} {listed : Array Bool} {i : Nat} (h : i ∈ Region.ready .any ops listed) : i < ops.size ∧ listed.getD i true = false ∧ ∀ j, j ∈ (ops.toList.map depsOf).getD i [] → listed.getD j false = true := by
  simp only [Region.ready, List.mem_filter, List.mem_range, Bool.and_eq_true, Bool.not_eq_true'] at h
  obtain ⟨h1, h2, h3⟩ := h
  refine ⟨h1, h2, fun j hj => ?_⟩
  rw [Array.getElem?_eq_getElem h1] at h3
  rw [deps_get (Array.getElem?_eq_getElem h1)] at hj
  simp only [Option.map_some, Option.getD_some, Array.all_eq_true'] at h3
  simp only [depsOf, List.mem_map, List.mem_filter] at hj
  obtain ⟨e, ⟨he, hb⟩, rfl⟩ := hj
  have := h3 e (by simpa using he)
  simpa [hb] using this

theorem ready_of {ops : Array Oper} {listed : Array Bool} {i : Nat} (h1 : i < ops.size) (h2 : listed.getD i true = false) (h3 : ∀ j, j ∈ (ops.toList.map depsOf).getD i [] → listed.getD j false = true) : i ∈ Region.ready .any ops listed := by
  simp only [Region.ready, List.mem_filter, List.mem_range, Bool.and_eq_true, Bool.not_eq_true']
  refine ⟨h1, h2, ?_⟩
  rw [Array.getElem?_eq_getElem h1]
  rw [deps_get (Array.getElem?_eq_getElem h1)] at h3
  simp only [Option.map_some, Option.getD_some, Array.all_eq_true']
  intro e he
  cases hb : Region.binds .any e with
  | false => simp
  | true =>
    simp only [Bool.not_true, Bool.false_or]
    exact h3 e.on (by simp only [depsOf, List.mem_map, List.mem_filter]; exact ⟨e, ⟨by simpa using he, hb⟩, rfl⟩)

/-- What has been done, as a test. -/
def doneB (n : Nat) (listed : Array Bool) (i : Nat) : Bool := decide (i < n) && listed.getD i false

theorem any_of {ops : Array Oper} {l : List MOper} {nm : Nat} {f : Nat → St} {L : Log} {Qc : Exit → Act → World → Prop} (hl : cOpers P N ops.toList nm ops.toList = some l) (hlow : lowerAll 0 (ops.toList.map depsOf) = true)
    (hind : indep (closAll [] (ops.toList.map depsOf)) L = true) (hL : L.length = l.length) (hev : ∀ i o, l[i]? = some o → Ev1 P o (f i) (f (i + 1)) (L.getD i ([], [])).1 (L.getD i ([], [])).2)
    (hq : ∀ m' a' w', Sim w0 I Zc N m' (f l.length) a' w' → Qc .normal a' w') :
    ∀ (fuel : Nat) (listed : Array Bool) (a : Act) (w : World) (m : Map), listed.size = ops.size → Closed (ops.toList.map depsOf) (doneB ops.size listed) → ((List.range ops.size).filter fun i => !listed.getD i false).length ≤ fuel →
      Sim w0 I Zc N m (mer f (fun i => (L.getD i ([], [])).2) (doneB ops.size listed) ops.size) a w → wpAny P .any ops Qc fuel listed a w := by
  obtain ⟨hlen, hget⟩ := cOpers_get _ _ _ hl
  have hlen : l.length = ops.size := by simpa using hlen
  let W : Nat → List SL := fun i => (L.getD i ([], [])).2
  have hopl : ∀ i, i < ops.size → ∃ o x nm', ops[i]? = some o ∧ l[i]? = some x ∧ cOper P N nm' ops.toList o = some x := by
    intro i hi
    obtain ⟨x, nm', h1, h2⟩ := hget i ops[i] (by simp [hi])
    exact ⟨ops[i], x, nm', Array.getElem?_eq_getElem hi, h1, h2⟩
  -- all that lies below i, in the text's order
  have mer_all : ∀ i, i ≤ ops.size → ∀ q, Same [q] (mer f W (fun _ => true) i) (f i) := by
    intro i
    induction i with
    | zero => exact fun _ q => Same.refl _ _
    | succ i ih =>
      intro hi q
      obtain ⟨o, x, nm', _, hx, _⟩ := hopl i (by omega)
      have he := hev i x hx
      simp only [mer, if_true]
      by_cases hw : q ∈ W i
      · exact over_in hw
      · exact (over_out hw).trans ((ih (by omega) q).trans (he.out q hw).symm)
  have mer_low : ∀ (n : Nat) (D : Nat → Bool) (q : SL) (i : Nat), i ≤ n → (∀ j, j < n → q ∈ W j → D j = decide (j < i)) → Same [q] (mer f W D n) (mer f W (fun _ => true) i) := by
    intro n D q i hin h
    have h1 : Same [q] (mer f W D n) (mer f W (fun j => decide (j < i)) n) := mer_same n h
    refine h1.trans ?_
    clear h1 h
    induction n with
    | zero =>
      have : i = 0 := by omega
      subst this
      exact Same.refl _ _
    | succ n ih =>
      by_cases hi : i = n + 1
      · subst hi
        exact mer_same (n + 1) fun j hj _ => by simp [hj]
      · simp only [mer]
        rw [if_neg (by simp; omega)]
        exact ih (by omega)
  have reach : ∀ i j, j ∈ (closAll [] (ops.toList.map depsOf)).getD i [] → Reach (ops.toList.map depsOf) i j :=
    closAll_spec _ [] [] rfl rfl fun i j h => by simp at h
  have allDone : ∀ (listed : Array Bool), listed.size = ops.size → Closed (ops.toList.map depsOf) (doneB ops.size listed) → Region.ready .any ops listed = [] → ∀ i, i < ops.size → listed.getD i false = true := by
    intro listed hsz hcl hr i
    induction i using Nat.strongRecOn with
    | _ i ih =>
      intro hi
      cases hli : listed.getD i false with
      | true => rfl
      | false =>
        exfalso
        have hli' : listed.getD i true = false := by
          rw [Array.getD_eq_getD_getElem?, Array.getElem?_eq_getElem (by omega)] at hli ⊢
          simpa using hli
        have := ready_of hi hli' fun j hj => ih j (Reach.lt hlow (.one hj)) (by have := Reach.lt hlow (.one hj); omega)
        rw [hr] at this
        cases this
  have fin : ∀ (listed : Array Bool) (a : Act) (w : World) (m : Map), listed.size = ops.size → Closed (ops.toList.map depsOf) (doneB ops.size listed) → Sim w0 I Zc N m (mer f W (doneB ops.size listed) ops.size) a w → Region.ready .any ops listed = [] → Qc .normal a w := by
    intro listed a w m hsz hcl hs hr
    have hall := allDone listed hsz hcl hr
    have e : mer f W (doneB ops.size listed) ops.size = f l.length := by
      rw [hlen]
      refine st_ext fun q => (mer_same ops.size fun j hj _ => ?_).trans (mer_all _ (Nat.le_refl _) q)
      simp [doneB, hj, hall j hj]
    rw [e] at hs
    exact hq m a w hs
  intro fuel
  induction fuel with
  | zero =>
    intro listed a w m hsz hcl hfuel hs
    have hr : Region.ready .any ops listed = [] := by
      cases hr : Region.ready .any ops listed with
      | nil => rfl
      | cons i r =>
        exfalso
        obtain ⟨h1, h2, _⟩ := ready_deps (i := i) (by rw [hr]; simp)
        have hmem : i ∈ (List.range ops.size).filter fun i => !listed.getD i false := by
          simp only [List.mem_filter, List.mem_range]
          refine ⟨h1, ?_⟩
          rw [Array.getD_eq_getD_getElem?, Array.getElem?_eq_getElem (by omega)] at h2 ⊢
          simpa using h2
        have := List.length_pos_of_mem hmem
        omega
    exact ⟨hr, fin listed a w m hsz hcl hs hr⟩
  | succ fuel ihf =>
    intro listed a w m hsz hcl hfuel hs
    refine ⟨fin listed a w m hsz hcl hs, fun i hi => ?_⟩
    obtain ⟨h1, h2, h3⟩ := ready_deps hi
    have h2' : listed.getD i false = false := by
      rw [Array.getD_eq_getD_getElem?, Array.getElem?_eq_getElem (by omega)] at h2 ⊢
      simpa using h2
    obtain ⟨o, x, nm', ho, hx, hco⟩ := hopl i h1
    have he := hev i x hx
    have hDi : doneB ops.size listed i = false := by simp [doneB, h2']
    have hdeps : ∀ k, k ∈ (ops.toList.map depsOf).getD i [] → doneB ops.size listed k = true := by
      intro k hk
      have := Reach.lt hlow (.one hk)
      simp only [doneB, h3 k hk, Bool.and_true, decide_eq_true_eq]
      omega
    have order : ∀ j, j < ops.size → j ≠ i → (j ∈ (closAll [] (ops.toList.map depsOf)).getD i [] ∨ i ∈ (closAll [] (ops.toList.map depsOf)).getD j []) → doneB ops.size listed j = decide (j < i) := by
      intro j hj hne h
      rcases h with h | h
      · have hr := reach i j h
        have := hr.lt hlow
        rw [hr.closed hcl hdeps]
        simp [this]
      · have hr := reach j i h
        have := hr.lt hlow
        have hn : doneB ops.size listed j = false := by
          cases hd : doneB ops.size listed j with
          | false => rfl
          | true =>
            have := hr.closed hcl (hcl j hd)
            rw [hDi] at this
            cases this
        rw [hn]
        simp
        omega
    -- the state here agrees with the text's, on what is read
    have hread : Same (L.getD i ([], [])).1 (mer f W (doneB ops.size listed) ops.size) (f i) := by
      have one : ∀ q, q ∈ (L.getD i ([], [])).1 → Same [q] (mer f W (doneB ops.size listed) ops.size) (f i) := by
        intro q hq
        refine (mer_low ops.size _ q i (by omega) fun j hj hw => ?_).trans (mer_all i (by omega) q)
        by_cases hne : j = i
        · subst hne
          rw [hDi]
          simp
        · rcases indep_spec hind (i := j) (j := i) (by omega) (by omega) hne with h | h | h
          · exact order j hj hne (.inr h)
          · exact order j hj hne (.inl h)
          · exact absurd hq (h q hw).1
      exact ⟨fun t ht => (one _ ht).fr t (by simp), fun y hy => (one _ hy).ob y (by simp), fun n hn => (one _ hn).cnt n (by simp)⟩
    obtain ⟨T', hdo, hin, hout⟩ := he.loc _ hread
    have hset : ∀ j, (listed.setIfInBounds i true).getD j false = if j = i then true else listed.getD j false := by
      intro j
      simp only [Array.getD_eq_getD_getElem?, Array.getElem?_setIfInBounds]
      by_cases hj : i = j
      · subst hj
        simp [hsz, h1]
      · rw [if_neg hj, if_neg (fun h => hj h.symm)]
    have hset' : ∀ j, doneB ops.size (listed.setIfInBounds i true) j = if j = i then true else doneB ops.size listed j := by
      intro j
      unfold doneB
      rw [hset]
      split
      · rename_i e
        subst e
        simp [h1]
      · rfl
    have hT : T' = mer f W (doneB ops.size (listed.setIfInBounds i true)) ops.size := by
      refine st_ext fun q => ?_
      by_cases hw : q ∈ W i
      · refine (hin q hw).trans ((mer_low ops.size _ q (i + 1) (by omega) fun j hj hwj => ?_).trans (mer_all (i + 1) (by omega) q)).symm
        rw [hset']
        by_cases hne : j = i
        · subst hne
          simp
        · rw [if_neg hne]
          have : doneB ops.size listed j = decide (j < i) := by
            rcases indep_spec hind (i := j) (j := i) (by omega) (by omega) hne with h | h | h
            · exact order j hj hne (.inr h)
            · exact order j hj hne (.inl h)
            · exact absurd hw (h q hwj).2
          rw [this]
          congr 1
          simp
          omega
      · refine (hout q hw).trans (mer_same ops.size fun j hj hwj => ?_)
        rw [hset', if_neg]
        rintro rfl
        exact hw hwj
    refine dom_wp hs ho hco hdo fun m' a' w' hs' => ?_
    refine ihf _ a' w' m' (by simpa using hsz) (fun j hj k hk => ?_) ?_ (by rw [← hT]; exact hs')
    · rw [hset'] at hj ⊢
      split
      · rfl
      · by_cases e : j = i
        · subst e
          exact hdeps k hk
        · rw [if_neg e] at hj
          exact hcl j hj k hk
    · have := filter_lt (fun j => !listed.getD j false) (fun j => !(listed.setIfInBounds i true).getD j false) (List.range ops.size) (fun j _ hj => by
        rw [hset] at hj
        split at hj
        · cases hj
        · exact hj) ⟨i, List.mem_range.2 h1, by simp [h2'], by rw [hset]; simp⟩
      omega

theorem dr_sound (hm : P.follows .mixedOrders = true) : DSound P (DR P) := by
  intro w0 I Zc N m S a w id nm ops l Q Qc hl s h hq
  obtain ⟨f, L, h1, h2, ⟨h3, h3'⟩, h4⟩ := draw_trace _ _ _ _ h
  simp only [List.nil_append, Bool.and_eq_true] at h3
  refine wp_region_any hm (any_of hl h3.1 h3.2 h2 h4 (fun m' a' w' hs => hq _ m' a' w' h3' hs) ops.size _ a _ m (by simp) (fun i hi => ?_) ?_ ?_)
  · have hd : doneB ops.size (Array.replicate ops.size false) i = false := by
      simp only [doneB, Array.getD_eq_getD_getElem?, Array.getElem?_replicate]
      split <;> simp
    rw [hd] at hi
    cases hi
  · refine Nat.le_trans (List.length_filter_le _ _) ?_
    simp
  · have e : mer f (fun i => (L.getD i ([], [])).2) (doneB ops.size (Array.replicate ops.size false)) ops.size = f 0 := by
      have hd : ∀ i, doneB ops.size (Array.replicate ops.size false) i = false := by
        intro i
        simp only [doneB, Array.getD_eq_getD_getElem?, Array.getElem?_replicate]
        split <;> simp
      have : ∀ n, mer f (fun i => (L.getD i ([], [])).2) (doneB ops.size (Array.replicate ops.size false)) n = f 0 := by
        intro n
        induction n with
        | zero => rfl
        | succ n ih => simp only [mer, hd, ih]; rfl
      exact this _
    rw [e, h1]
    exact sim_below s ((Below.refl _ w).drew)
end
end Go.Proofs.Ythapbbpdcjmmfaa.Abs
