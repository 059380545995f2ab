/-
  Lists whose rows may bear one of several names: appending, sorting, leaving out what repeats; calls that return such a list. No condition beyond those that each statement names.
-/
import Derived.Test.YthapbbpdcjmmfaaAbsK
namespace Go.Proofs.Ythapbbpdcjmmfaa.Abs
open Go.RowKit Go.Sort
set_option linter.unusedVariables false
set_option linter.unusedSimpArgs false

/-- A list that appends have built, under one of these names: nil, or a row of its own. -/
def outL (nms : List Nat) (typ esz n : Nat) (cs : List C) (ob : Nm → Option Ob) (v : AV) : Prop :=
  (n = 0 ∧ cs = [] ∧ v = .one .nil) ∨ (0 < n ∧ ∃ nm ∈ nms, ∃ g, v = .one (.row (nm, g)) ∧ ob (nm, g) = some ⟨true, true, false, esz, n, typ, cs.map .t⟩)

theorem outL_nil {nms : List Nat} {typ esz : Nat} {ob : Nm → Option Ob} : outL nms typ esz 0 [] ob (.one .nil) := .inl ⟨rfl, rfl, rfl⟩

theorem outL.keep {nms : List Nat} {typ esz n : Nat} {cs : List C} {ob ob' : Nm → Option Ob} {v : AV} (h : outL nms typ esz n cs ob v) (ho : ∀ nm ∈ nms, ∀ g, ob' (nm, g) = ob (nm, g)) : outL nms typ esz n cs ob' v := by
  rcases h with h | ⟨h1, nm, hm, g, h2, h3⟩
  · exact .inl h
  · exact .inr ⟨h1, nm, hm, g, h2, by rw [ho nm hm]; exact h3⟩

theorem outL.wide {nms nms' : List Nat} {typ esz n : Nat} {cs : List C} {ob : Nm → Option Ob} {v : AV} (h : outL nms typ esz n cs ob v) (hs : ∀ x ∈ nms, x ∈ nms') : outL nms' typ esz n cs ob v := by
  rcases h with h | ⟨h1, nm, hm, g, h2, h3⟩
  · exact .inl h
  · exact .inr ⟨h1, nm, hs nm hm, g, h2, h3⟩

theorem outL.one {nms : List Nat} {typ esz n : Nat} {cs : List C} {ob : Nm → Option Ob} {v : AV} (h : outL nms typ esz n cs ob v) : ∃ u, v = .one u := by
  rcases h with ⟨_, _, h⟩ | ⟨_, nm, _, g, h, _⟩
  · exact ⟨_, h⟩
  · exact ⟨_, h⟩

theorem outL.rowIs {nms : List Nat} {typ esz n : Nat} {cs : List C} {ob : Nm → Option Ob} {v : AV} (h : outL nms typ esz n cs ob v) : Abs.rowIs typ esz n cs ob v := by
  rcases h with ⟨h1, _, h2⟩ | ⟨h1, nm, _, g, h2, h3⟩
  · exact .inl ⟨h1, h2⟩
  · exact .inr ⟨h1, _, _, h2, h3, rfl, rfl, rfl, rfl, rfl, rfl⟩

theorem outL.slice {nms : List Nat} {typ esz n : Nat} {cs : List C} {ob : Nm → Option Ob} {v : AV} (h : outL nms typ esz n cs ob v) (fr : Nat → AV) (cnt : Nat → Nat) : sliceOf ⟨fr, ob, cnt⟩ v = some (n, cs.map .t) := by
  rcases h with ⟨rfl, rfl, rfl⟩ | ⟨h1, nm, _, g, rfl, h3⟩
  · rfl
  · simp [sliceOf, St.live, h3]

theorem kApp_growL {nms : List Nat} {nm typ esz bytes n k : Nat} {cs ts : List C} {v : AV} {S : St} {K : Eff → Prop} {news : List V1} (hm : nm ∈ nms) (hnews : news = ts.map .t) (h : outL nms typ esz n cs S.ob v) (hl : ts.length = k * esz) (hb : (n + k) * bytes ≤ 140737488355328) (hn : n + k ≤ 9000000000000000000)
    (hK : ∀ E : Eff, outL nms typ esz (n + k) (cs ++ ts) E.ob E.v → (∀ a g, a ∉ nms → E.ob (a, g) = S.ob (a, g)) → (∀ a, a ∉ nms → E.cnt a = S.cnt a) → K E) : kApp nm typ esz bytes v (some (k, news)) S K := by
  subst hnews
  unfold kApp evApp
  simp only [trees_t, List.length_map]
  rcases h with ⟨rfl, rfl, rfl⟩ | ⟨h1, nm', hm', g, rfl, h3⟩
  · simp only
    rw [if_pos ⟨by simpa using hb, hl, by omega⟩]
    by_cases hk : k = 0
    · subst hk
      have : ts = [] := List.eq_nil_of_length_eq_zero (by simpa using hl)
      subst this
      rw [if_pos rfl]
      exact ⟨_, rfl, hK _ (.inl ⟨rfl, rfl, rfl⟩) (fun _ _ _ => rfl) fun _ _ => rfl⟩
    rw [if_neg hk]
    refine ⟨_, rfl, hK _ (.inr ⟨by omega, nm, hm, S.cnt nm, rfl, ?_⟩) (fun a g ha => ?_) (fun a ha => ?_)⟩
    · simp [St.new, upd_same]
    · simp only [St.new]
      exact upd_ne _ _ (fun e => ha (by cases e; exact hm))
    · simp only [St.new]
      exact upd_ne _ _ (fun e => ha (e ▸ hm))
  · simp only [St.live, h3, if_true]
    rw [if_pos ⟨trivial, trivial, trivial, trivial, hb, hl, by omega⟩]
    refine ⟨_, rfl, hK _ (.inr ⟨by omega, nm, hm, S.cnt nm, rfl, ?_⟩) (fun a g' ha => ?_) (fun a ha => ?_)⟩
    · simp [upd_same]
    · show upd (upd S.ob (nm', g) _) (nm, S.cnt nm) _ (a, g') = _
      rw [upd_ne _ _ (fun e => ha (by cases e; exact hm)), upd_ne _ _ (fun e => ha (by cases e; exact hm'))]
    · exact upd_ne _ _ (fun e => ha (e ▸ hm))

theorem rowEff_outL {S : St} {nm typ esz n : Nat} {cs : List C} (hl : cs.length = n * esz) : outL [nm] typ esz n cs (rowEff S nm typ esz n cs).ob (rowEff S nm typ esz n cs).v ∧ (∀ a g, a ≠ nm → (rowEff S nm typ esz n cs).ob (a, g) = S.ob (a, g)) ∧ (∀ a, a ≠ nm → (rowEff S nm typ esz n cs).cnt a = S.cnt a) := by
  unfold rowEff
  split
  · rename_i h
    subst h
    have : cs = [] := List.eq_nil_of_length_eq_zero (by simpa using hl)
    subst this
    exact ⟨outL_nil, fun _ _ _ => rfl, fun _ _ => rfl⟩
  · refine ⟨.inr ⟨by omega, nm, by simp, S.cnt nm, rfl, by simp [St.new, upd_same]⟩, fun a g ha => ?_, fun a ha => ?_⟩
    · exact upd_ne _ _ (fun e => ha (Prod.mk.inj e).1)
    · exact upd_ne _ _ ha

theorem dCall_rowL {P : Program} {S : St} {K : Eff → Prop} {g : FuncId} {nm : Nat} {args : List AV} {targs : List TV} {typ esz n : Nat} {cs : List C} (h : CallRow P g targs typ esz n cs) (ht : argTrees ⟨fun _ => .undef, S.ob, S.cnt⟩ args = some targs)
    (hk : ∀ E : Eff, outL [nm] typ esz n cs E.ob E.v → (∀ a g, a ≠ nm → E.ob (a, g) = S.ob (a, g)) → (∀ a, a ≠ nm → E.cnt a = S.cnt a) → K E) : dCall P (.one (.fn g [])) nm args S K :=
  dCall_row h ht (hk _ (rowEff_outL h.2.2.1).1 (rowEff_outL h.2.2.1).2.1 (rowEff_outL h.2.2.1).2.2)

theorem callS_rowL {P : Program} {f : FuncId} {args : List AV} {targs : List TV} {typ esz n : Nat} {cs : List C} {ob : Nm → Option Ob} {cnt : Nat → Nat} {R : AV → (Nm → Option Ob) → (Nat → Nat) → Prop} (nm : Nat) (h : CallRow P f targs typ esz n cs)
    (ht : argTrees ⟨fun _ => .undef, ob, cnt⟩ args = some targs) (hR : ∀ v ob' cnt', outL [nm] typ esz n cs ob' v → (∀ a g, a ≠ nm → ob' (a, g) = ob (a, g)) → (∀ a, a ≠ nm → cnt' a = cnt a) → R v ob' cnt') : CallS P f args ob cnt R :=
  callS_row nm h ht (hR _ _ _ (rowEff_outL h.2.2.1).1 (rowEff_outL h.2.2.1).2.1 (rowEff_outL h.2.2.1).2.2)

section
variable {P : Program} {w w' w0 : World} {Zc : Nat → Prop} {m : Map} {ob : Nm → Option Ob} {cnt : Nat → Nat}

/-- A row is not used any more. -/
theorem hr_kill (h : HR w0 Zc m ob cnt w) {o : Nm} {x : Ob} (ho : ob o = some x) : HR w0 Zc m (upd ob o (some { x with live := false })) cnt w ∧
    Ext w (vol m ob Zc) m ob w (vol m (upd ob o (some { x with live := false })) Zc) m (upd ob o (some { x with live := false })) := by
  have get : ∀ (p : Nm) (y : Ob), upd ob o (some { x with live := false }) p = some y → y.live = true → p ≠ o ∧ ob p = some y := by
    intro p y hp hyl
    by_cases e2 : p = o
    · subst e2
      rw [upd_same] at hp
      injection hp with hp
      subst hp
      cases hyl
    · rw [upd_ne _ _ e2] at hp
      exact ⟨e2, hp⟩
  have ex : Ext w (vol m ob Zc) m ob w (vol m (upd ob o (some { x with live := false })) Zc) m (upd ob o (some { x with live := false })) := by
    refine ⟨⟨fun _ _ _ => rfl, fun b _ hb => ?_, Nat.le_refl _⟩, fun _ _ => rfl, fun _ _ => rfl, fun p y hp => ?_⟩
    · rcases hb with hb | ⟨p, y, hp, hyl, hyf, e⟩
      · exact .inl hb
      · obtain ⟨e2, hp'⟩ := get p y hp hyl
        exact .inr ⟨p, y, hp', hyl, hyf, e⟩
    · by_cases e2 : p = o
      · subst e2
        rw [ho] at hp
        injection hp with hp
        subst hp
        exact ⟨_, upd_same .., rfl, rfl⟩
      · exact ⟨y, by rw [upd_ne _ _ e2]; exact hp, rfl, rfl⟩
  refine ⟨⟨h.below, h.zc, fun n g hg => ?_, fun p y hp hyl => ?_, fun p y p' y' hp hyl hp' hyl' he => ?_⟩, ex⟩
  · rw [upd_ne _ _ (by rintro rfl; rw [h.fresh n g hg] at ho; cases ho)]
    exact h.fresh n g hg
  · obtain ⟨e2, hp'⟩ := get p y hp hyl
    exact OR.ext ex (by rw [hp']; simp) rfl (h.obs p y hp' hyl)
  · exact h.inj p y p' y' (get p y hp hyl).2 hyl (get p' y' hp' hyl').2 hyl' he

/-- A row that is not used any more is a tree. -/
theorem dead_tree (h : HR w0 Zc m ob cnt w) {o : Nm} {x : Ob} {zs : List Int} (ho : ob o = some x) (hl : x.live = true) (hrow : x.isRow = true) (hesz : x.esz = 1) (hn : x.n = zs.length) (hc : x.cells = zs.map fun z => .t (.int .i64 z)) (k : Nat) (hk : k ≤ zs.length) :
    CR w (vol m (upd ob o (some { x with live := false })) Zc) (ints (zs.take k)) (.slice (some ⟨m.at_ o, 0, none⟩) k (m.cap o)) := by
  obtain ⟨hbase, arr, h1, h2, h3⟩ := h.obs o x ho hl
  rw [if_pos hrow] at h2
  have hcell : ∀ j, j < k → arr[j]? = some (.int .i64 (zs.getD j 0)) := by
    intro j hj
    have hj' : j < zs.length := by omega
    obtain ⟨u, g1, _, g3⟩ := h3 j (.t (.int .i64 zs[j])) (by rw [hc]; simp [hj'])
    rw [g1]
    have : u = .int .i64 zs[j] := by
      cases (show CR w (vol m ob Zc) (.int .i64 zs[j]) u from g3)
      rfl
    rw [this]
    simp [hj']
  have el : k = (zs.take k).length := by simp; omega
  have e : ints (zs.take k) = .sl k ((zs.take k).map (.int .i64)) := by rw [ints, ← el]
  rw [e]
  refine .sl k (m.cap o) _ (some ⟨m.at_ o, 0, none⟩) (fun j => .int .i64 (zs.getD j 0)) (by omega) (fun _ => ⟨_, rfl, fun hz => ?_, fun j hj => ?_⟩) (fun j c hj => ?_)
  · rcases hz with hz | ⟨p, y, hp, hyl, hyf, e⟩
    · have := h.zc _ hz
      simp only at this
      omega
    · by_cases e2 : p = o
      · subst e2
        rw [upd_same] at hp
        injection hp with hp
        subst hp
        cases hyl
      · rw [upd_ne _ _ e2] at hp
        exact e2 (h.inj p y o x hp hyl ho hl e)
  · have hj' : j < k := by simp at hj; omega
    rw [add_ptr, Nat.zero_add, cell_of_row w _ _ _ _ _ h1]
    exact hcell j hj'
  · simp only [List.getElem?_map, Option.map_eq_some_iff] at hj
    obtain ⟨z, hz, rfl⟩ := hj
    have hz' : j < (zs.take k).length := (List.getElem?_eq_some_iff.1 hz).1
    have hj' : j < zs.length := by simp at hz'; omega
    rw [List.getElem?_take_of_lt (by omega)] at hz
    have : zs.getD j 0 = z := by simp [List.getD_eq_getElem?_getD, hz]
    rw [this]
    exact .int _ _

theorem callS_sortL {f : FuncId} (hs : SortSaid P f) {R : AV → (Nm → Option Ob) → (Nat → Nat) → Prop} {nms : List Nat} {typ : Nat} {zs : List Int} {v : AV} (h : outL nms typ 1 zs.length (zs.map (.int .i64)) ob v) (hbig : zs.length < 4611686018427387904)
    (hR : ∀ ob', outL nms typ 1 (zs.mergeSort fun x y => decide (x ≤ y)).length ((zs.mergeSort fun x y => decide (x ≤ y)).map (.int .i64)) ob' v → (∀ a g, a ∉ nms → ob' (a, g) = ob (a, g)) → R (.tup []) ob' cnt) : CallS P f [v] ob cnt R := by
  rcases h with ⟨h1, h2, rfl⟩ | ⟨h1, nm, hm, g, rfl, h3⟩
  · have : zs = [] := List.eq_nil_of_length_eq_zero h1
    subst this
    exact callS_sort_nil hs (hR _ (.inl ⟨by simp, by simp, rfl⟩) fun _ _ _ => rfl)
  · refine callS_sort (zs := zs) hs h3 rfl rfl rfl rfl rfl (by simp) hbig (hR _ (.inr ⟨by simpa using h1, nm, hm, g, rfl, ?_⟩) fun a g' ha => ?_)
    · rw [upd_same]
      simp
    · exact upd_ne _ _ (fun e => ha (by cases e; exact hm))

theorem callS_compactL {f : FuncId} (hs : CompSaid P f) {R : AV → (Nm → Option Ob) → (Nat → Nat) → Prop} {nms : List Nat} {typ : Nat} {zs : List Int} {v : AV} (h : outL nms typ 1 zs.length (zs.map (.int .i64)) ob v) (hbig : zs.length ≤ 9223372036854775807)
    (hR : ∀ ob', (∀ a g, a ∉ nms → ob' (a, g) = ob (a, g)) → R (.one (.t (ints (Lib.compact zs)))) ob' cnt) : CallS P f [v] ob cnt R := by
  rcases h with ⟨h1, h2, rfl⟩ | ⟨h1, nm, hm, g, rfl, h3⟩
  · have : zs = [] := List.eq_nil_of_length_eq_zero h1
    subst this
    refine ⟨hs.2.2, fun w0 Zc m w cargs hr hlen hargs => ?_⟩
    have h0 : cargs.size = 1 := by simpa using hlen.symm
    obtain ⟨A, hv⟩ := hargs 0 (.one .nil) cargs[0] rfl (by simp [h0])
    have e : cargs = #[.slice A 0 0] := by
      apply Array.ext (by simp [h0])
      intro i h1 h2
      have : i = 0 := by omega
      subst this
      simpa using hv
    rw [e]
    refine (hs.2.1 A 0 w).mono ?_
    rintro e w' ⟨rfl, rfl⟩
    refine ⟨_, _, ob, cnt, m, rfl, hR ob fun _ _ _ => rfl, hr, Ext.refl .., ?_⟩
    exact .sl 0 0 [] A (fun _ => default) (Nat.le_refl _) (fun h => by simp at h) (fun j c h => by simp at h)
  · refine ⟨hs.2.2, fun w0 Zc m w cargs hr hlen hargs => ?_⟩
    have h0 : cargs.size = 1 := by simpa using hlen.symm
    obtain ⟨x', hx', _, hv⟩ := hargs 0 (.one (.row (nm, g))) cargs[0] rfl (by simp [h0])
    rw [h3] at hx'
    injection hx' with hx'
    subst hx'
    have e : cargs = #[.slice (some ⟨m.at_ (nm, g), 0, none⟩) zs.length (m.cap (nm, g))] := by
      apply Array.ext (by simp [h0])
      intro i h1 h2
      have : i = 0 := by omega
      subst this
      simpa using hv
    have hcap : zs.length ≤ m.cap (nm, g) := by
      obtain ⟨_, arr, _, h2, _⟩ := hr.obs _ _ h3 rfl
      rw [if_pos rfl] at h2
      exact h2.2.1
    rw [e]
    refine (hs.1 (m.at_ (nm, g)) (m.cap (nm, g)) zs w (holds_row hr h3 rfl rfl (by simp)) hbig hcap).mono ?_
    have hcl := compact_le zs
    rintro e w' ⟨rfl, n, hw⟩
    obtain ⟨g1, g2⟩ := hr_put (w' := w') (zs := zs) (ts := Lib.compact zs ++ List.replicate (zs.length - (Lib.compact zs).length) 0) (n := n) (os := #[]) hr h3 rfl rfl rfl rfl rfl (by simp) (by simp; omega) (by rw [grow_empty]; exact hw)
    obtain ⟨k1, k2⟩ := hr_kill g1 (upd_same ..)
    have hd := dead_tree g1 (zs := Lib.compact zs ++ List.replicate (zs.length - (Lib.compact zs).length) 0) (upd_same ..) rfl rfl rfl (by simp; omega) rfl (Lib.compact zs).length (by simp)
    rw [List.take_left] at hd
    refine ⟨_, .one (.t (ints (Lib.compact zs))), _, cnt, m, rfl, hR _ fun a g' ha => ?_, k1, g2.trans k2, hd⟩
    rw [upd_ne _ _ (fun e => ha (by cases e; exact hm)), upd_ne _ _ (fun e => ha (by cases e; exact hm))]
end

theorem untreeT (ts : List C) : untree (ts.map .t) = some ts := by
  induction ts with
  | nil => rfl
  | cons c r ih => simp [untree, ih]

theorem treeCell_row {fr : Nat → AV} {ob : Nm → Option Ob} {cnt : Nat → Nat} {o : Nm} {fz : Bool} {esz n typ : Nat} {cs : List C} (h : ob o = some ⟨true, true, fz, esz, n, typ, cs.map .t⟩) : treeCell ⟨fr, ob, cnt⟩ (.row o) = some (.sl n cs) := by
  simp [treeCell, St.live, h, untreeT]

theorem argTree_one {S : St} {v : V1} : argTree S (.one v) = (treeCell S v).map fun c => (false, [c]) := Eq.trans rfl rfl
theorem still_one {S : St} {v : V1} : AV.still S (.one v) = v.still S := Eq.trans rfl rfl
theorem treeCell_nil {S : St} : treeCell S .nil = some (.sl 0 []) := Eq.trans rfl rfl

/-- A call that is given two lists that appends have built. -/
theorem callS_lists2 {P : Program} {f : FuncId} {x v1 v2 : AV} {tx : TV} {n1 n2 t1 t2 : Nat} {a b : List C} {nms1 nms2 : List Nat} {r : TR} {ob : Nm → Option Ob} {cnt : Nat → Nat} {R : AV → (Nm → Option Ob) → (Nat → Nat) → Prop}
    (h : CallOK P f [tx, (false, [.sl n1 a]), (false, [.sl n2 b])] r) (hx : ∀ ob cnt, argTree ⟨fun _ => .undef, ob, cnt⟩ x = some tx ∧ x.still ⟨fun _ => .undef, ob, cnt⟩ = true)
    (h1 : outL nms1 t1 1 n1 a ob v1) (h2 : outL nms2 t2 1 n2 b ob v2) (hd : ∀ nm ∈ nms1, nm ∉ nms2) (hR : ∀ ob', (∀ nm g, nm ∉ nms1 → nm ∉ nms2 → ob' (nm, g) = ob (nm, g)) → R r.av ob' cnt) : CallS P f [x, v1, v2] ob cnt R := by
  have hx1 := fun ob => (hx ob cnt).1
  have hx2 := fun ob => (hx ob cnt).2
  rcases h1 with ⟨rfl, rfl, rfl⟩ | ⟨p1, m1, q1, g1, rfl, o1⟩ <;> rcases h2 with ⟨rfl, rfl, rfl⟩ | ⟨p2, m2, q2, g2, rfl, o2⟩
  · refine callS_tree h ?_ ?_ (hR ob fun _ _ _ _ => rfl)
    · simp [argTrees, hx1, argTree_one, treeCell_nil]
    · simp [hx2, still_one, V1.still]
  · refine callS_freeze [(m2, g2)] (callS_tree h ?_ ?_ (hR _ fun nm g e1 e2 => ?_))
    · have e : frzAll [(m2, g2)] ob (m2, g2) = some ⟨true, true, true, 1, n2, t2, b.map .t⟩ := by simp [frzAll, frzOne, o2, upd_same]
      simp [argTrees, hx1, argTree_one, treeCell_row e, treeCell_nil]
    · simp [hx2, still_one, V1.still, St.live, frzAll, frzOne, o2, upd_same]
    · have : (nm, g) ≠ (m2, g2) := fun e => e2 (by cases e; exact q2)
      simp [frzAll, frzOne, o2, upd_ne _ _ this]
  · refine callS_freeze [(m1, g1)] (callS_tree h ?_ ?_ (hR _ fun nm g e1 e2 => ?_))
    · have e : frzAll [(m1, g1)] ob (m1, g1) = some ⟨true, true, true, 1, n1, t1, a.map .t⟩ := by simp [frzAll, frzOne, o1, upd_same]
      simp [argTrees, hx1, argTree_one, treeCell_row e, treeCell_nil]
    · simp [hx2, still_one, V1.still, St.live, frzAll, frzOne, o1, upd_same]
    · have : (nm, g) ≠ (m1, g1) := fun e => e1 (by cases e; exact q1)
      simp [frzAll, frzOne, o1, upd_ne _ _ this]
  · have hne : (m2, g2) ≠ (m1, g1) := fun e => hd _ q1 (by cases e; exact q2)
    have hne' : (m1, g1) ≠ (m2, g2) := fun e => hne e.symm
    have w1 : frzAll [(m1, g1), (m2, g2)] ob = upd (upd ob (m1, g1) (some ⟨true, true, true, 1, n1, t1, a.map .t⟩)) (m2, g2) (some ⟨true, true, true, 1, n2, t2, b.map .t⟩) := by
      simp [frzAll, frzOne, o1, upd_ne _ _ hne, o2]
    refine callS_freeze [(m1, g1), (m2, g2)] ?_
    rw [w1]
    refine callS_tree h ?_ ?_ (hR _ fun nm g e1 e2 => ?_)
    · have e : (upd (upd ob (m1, g1) (some ⟨true, true, true, 1, n1, t1, a.map .t⟩)) (m2, g2) (some ⟨true, true, true, 1, n2, t2, b.map .t⟩)) (m1, g1) = some ⟨true, true, true, 1, n1, t1, a.map .t⟩ := by rw [upd_ne _ _ hne', upd_same]
      simp [argTrees, hx1, argTree_one, treeCell_row e, treeCell_row (upd_same ..)]
    · simp [hx2, still_one, V1.still, St.live, upd_ne _ _ hne', upd_same]
    · have f1 : (nm, g) ≠ (m1, g1) := fun e => e1 (by cases e; exact q1)
      have f2 : (nm, g) ≠ (m2, g2) := fun e => e2 (by cases e; exact q2)
      rw [upd_ne _ _ f2, upd_ne _ _ f1]
end Go.Proofs.Ythapbbpdcjmmfaa.Abs
