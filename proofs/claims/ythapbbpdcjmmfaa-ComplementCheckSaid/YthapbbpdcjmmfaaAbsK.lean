/-
  Calls that write into a row that they are given: sorting, and leaving out what repeats. No condition beyond those that each statement names.
-/
import Derived.Test.YthapbbpdcjmmfaaAbsJ
import Derived.Sort.OwnSortedInts
import Derived.Lib.SlicesCompact
namespace Go.Proofs.Ythapbbpdcjmmfaa.Abs
open Go.RowKit Go.Sort
set_option linter.unusedVariables false
set_option linter.unusedSimpArgs false

section
variable {P : Program} {w w' w0 : World} {Zc : Nat → Prop} {m : Map} {ob : Nm → Option Ob} {cnt : Nat → Nat}

/-- A row's object holds new numbers. -/
theorem hr_put (h : HR w0 Zc m ob cnt w) {o : Nm} {x : Ob} {zs ts : List Int} (ho : ob o = some x) (hl : x.live = true) (hrow : x.isRow = true) (hf : x.frz = false) (hesz : x.esz = 1) (hn : x.n = zs.length) (hc : x.cells = zs.map fun z => .t (.int .i64 z)) (hlen : ts.length = zs.length)
    {n : Nat} {os : Array Obj} (hw : w' = grow (putRow (Value.int .i64) (Sort.ahead w n) (m.at_ o) 0 ts.toArray) os) :
    HR w0 Zc m (upd ob o (some { x with cells := ts.map fun z => .t (.int .i64 z) })) cnt w' ∧ Ext w (vol m ob Zc) m ob w' (vol m (upd ob o (some { x with cells := ts.map fun z => .t (.int .i64 z) })) Zc) m (upd ob o (some { x with cells := ts.map fun z => .t (.int .i64 z) })) := by
  obtain ⟨hbase, arr, h1, h2, h3⟩ := h.obs o x ho hl
  rw [if_pos hrow] at h2
  have hg := grownBy_sortedI (w := w) (g := m.at_ o) (n := n) (os := os) ts.toArray
  rw [← hw] at hg
  have hh := heap_sortedI (n := n) (os := os) ts.toArray h1
  rw [← hw] at hh
  have hother : ∀ k, k < w.heap.size → k ≠ m.at_ o → w'.heap[k]? = w.heap[k]? := fun k hk hne => hg.block k hk (fun e => hne (by injection e))
  have hz : vol m ob Zc (m.at_ o) := .inr ⟨o, x, ho, hl, hf, rfl⟩
  have hvol : ∀ q, vol m (upd ob o (some { x with cells := ts.map fun z => .t (.int .i64 z) })) Zc q → vol m ob Zc q := by
    rintro q (hq | ⟨p, y, hpy, hyl, hyf, e⟩)
    · exact .inl hq
    · by_cases e' : p = o
      · subst e'
        exact .inr ⟨p, x, ho, hl, hf, e⟩
      · rw [upd_ne _ _ e'] at hpy
        exact .inr ⟨p, y, hpy, hyl, hyf, e⟩
  have ex : Ext w (vol m ob Zc) m ob w' (vol m (upd ob o (some { x with cells := ts.map fun z => .t (.int .i64 z) })) Zc) m (upd ob o (some { x with cells := ts.map fun z => .t (.int .i64 z) })) := by
    refine ⟨⟨fun k hk hlt => hother k hlt (fun e => hk (e ▸ hz)), fun k _ hk => hvol k hk, hg.size⟩, fun _ _ => rfl, fun _ _ => rfl, fun p y hp => ?_⟩
    by_cases e' : p = o
    · subst e'
      rw [ho] at hp
      injection hp with hp
      subst hp
      exact ⟨_, upd_same .., rfl, rfl⟩
    · exact ⟨y, by rw [upd_ne _ _ e']; exact hp, rfl, rfl⟩
  have hfit : zs.length ≤ arr.size := by
    have := h2.2.1
    have := h2.1
    rw [hesz] at this
    omega
  refine ⟨⟨h.below.trans ⟨hg.os, hg.tape, hg.output, hg.size, fun k hk => hother k (Nat.lt_of_lt_of_le hk h.size) (by omega)⟩, h.zc, fun nm g hgt => ?_, fun p y hp hyl => ?_, fun p y p' y' hp hyl hp' hyl' he => ?_⟩, ex⟩
  · have hnn := h.fresh nm g hgt
    rw [upd_ne _ _ (by rintro rfl; rw [ho] at hnn; cases hnn)]
    exact hnn
  · by_cases e' : p = o
    · subst e'
      rw [upd_same] at hp
      injection hp with hp
      subst hp
      refine ⟨hbase, _, hh, ?_, fun j v hv => ?_⟩
      · simp only [hrow, if_true]
        refine ⟨by simp [putCells]; exact h2.1, h2.2.1, h2.2.2.1, by simp [hlen, hn, hesz], h2.2.2.2.2.1, fun v hv => ?_⟩
        obtain ⟨z, _, rfl⟩ := List.mem_map.1 hv
        exact ⟨_, rfl⟩
      · simp only [List.getElem?_map, Option.map_eq_some_iff] at hv
        obtain ⟨z, hz', rfl⟩ := hv
        have ht := take_putCellsI arr ts (by omega)
        have hj : j < ts.length := (List.getElem?_eq_some_iff.1 hz').1
        have h5 : ((putCells (Value.int .i64) 0 ts.toArray arr).toList.take ts.length)[j]? = (ts.map (Value.int .i64))[j]? := by rw [ht]
        rw [List.getElem?_take_of_lt hj, Array.getElem?_toList] at h5
        refine ⟨.int .i64 z, by rw [h5]; simp [hz'], rfl, CR.int _ _⟩
    · rw [upd_ne _ _ e'] at hp
      refine OR.ext ex (by rw [hp]; simp) (hother _ (h.at_lt hp hyl) fun e => e' (h.inj p y o x hp hyl ho hl e)) (h.obs p y hp hyl)
  · have back : ∀ (p : Nm) (y : Ob), upd ob o (some { x with cells := ts.map fun z => .t (.int .i64 z) }) p = some y → y.live = true → ∃ z, ob p = some z ∧ z.live = true := by
      intro p y hp hyl
      by_cases e' : p = o
      · subst e'
        exact ⟨x, ho, hl⟩
      · rw [upd_ne _ _ e'] at hp
        exact ⟨y, hp, hyl⟩
    obtain ⟨z, q1, q2⟩ := back p y hp hyl
    obtain ⟨z', q1', q2'⟩ := back p' y' hp' hyl'
    exact h.inj p z p' z' q1 q2 q1' q2' he

theorem holds_row (h : HR w0 Zc m ob cnt w) {o : Nm} {x : Ob} {zs : List Int} (ho : ob o = some x) (hl : x.live = true) (hrow : x.isRow = true) (hc : x.cells = zs.map fun z => .t (.int .i64 z)) : Holds (Value.int .i64) w (m.at_ o) 0 zs.toArray := by
  obtain ⟨hbase, arr, h1, h2, h3⟩ := h.obs o x ho hl
  refine holds_of_blockI h1 ?_
  apply List.ext_getElem?
  intro j
  by_cases hj : j < zs.length
  · rw [List.getElem?_take_of_lt hj, Array.getElem?_toList]
    obtain ⟨u, g1, _, g3⟩ := h3 j (.t (.int .i64 zs[j])) (by rw [hc]; simp [hj])
    rw [g1]
    have : u = .int .i64 zs[j] := by
      cases (show CR w (vol m ob Zc) (.int .i64 zs[j]) u from g3)
      rfl
    rw [this]
    simp [hj]
  · rw [List.getElem?_take_eq_none (by omega), List.getElem?_eq_none (by simp; omega)]

/-- What the library says of its sort. -/
def SortSaid (P : Program) (f : FuncId) : Prop := (∀ (blk cap : Nat) (zs : List Int) (w : World), Holds (Value.int .i64) w blk 0 zs.toArray → blk < w.heap.size → zs.length < 4611686018427387904 →
    Calls P f #[.slice (some ⟨blk, 0, none⟩) zs.length cap] w fun e w' => e = .returned (.tuple #[]) ∧ ∃ n os, w' = grow (putRow (Value.int .i64) (Sort.ahead w n) blk 0 (zs.mergeSort fun x y => decide (x ≤ y)).toArray) os) ∧
  (∀ (p : Option Addr) (cap : Nat) (w : World), Calls P f #[.slice p 0 cap] w fun e w' => e = .returned (.tuple #[]) ∧ w' = w) ∧ callable P f = true

theorem callS_sort {f : FuncId} (hs : SortSaid P f) {R : AV → (Nm → Option Ob) → (Nat → Nat) → Prop} {o : Nm} {x : Ob} {zs : List Int} (ho : ob o = some x) (hl : x.live = true) (hrow : x.isRow = true) (hf : x.frz = false) (hesz : x.esz = 1) (hn : x.n = zs.length) (hc : x.cells = zs.map fun z => .t (.int .i64 z))
    (hbig : zs.length < 4611686018427387904) (hR : R (.tup []) (upd ob o (some { x with cells := (zs.mergeSort fun x y => decide (x ≤ y)).map fun z => .t (.int .i64 z) })) cnt) : CallS P f [.one (.row o)] ob cnt R := by
  refine ⟨hs.2.2, fun w0 Zc m w cargs hr hlen hargs => ?_⟩
  have h0 : cargs.size = 1 := by simpa using hlen.symm
  obtain ⟨x', hx', _, hv⟩ := hargs 0 (.one (.row o)) cargs[0] rfl (by simp [h0])
  rw [ho] at hx'
  injection hx' with hx'
  subst hx'
  have e : cargs = #[.slice (some ⟨m.at_ o, 0, none⟩) zs.length (m.cap o)] := by
    rw [hn] at hv
    apply Array.ext (by simp [h0])
    intro i h1 h2
    have : i = 0 := by omega
    subst this
    simpa using hv
  rw [e]
  refine (hs.1 (m.at_ o) (m.cap o) zs w (holds_row hr ho hl hrow hc) (hr.at_lt ho hl) hbig).mono ?_
  rintro e w' ⟨rfl, n, os, hw⟩
  obtain ⟨g1, g2⟩ := hr_put hr ho hl hrow hf hesz hn hc (by simp) hw
  exact ⟨_, _, _, _, m, rfl, hR, g1, g2, #[], rfl, rfl, fun j s u hs => by simp at hs⟩

theorem callS_sort_nil {f : FuncId} (hs : SortSaid P f) {R : AV → (Nm → Option Ob) → (Nat → Nat) → Prop} (hR : R (.tup []) ob cnt) : CallS P f [.one .nil] ob cnt R := by
  refine ⟨hs.2.2, fun w0 Zc m w cargs hr hlen hargs => ?_⟩
  have h0 : cargs.size = 1 := by simpa using hlen.symm
  obtain ⟨A, hv⟩ := hargs 0 (.one .nil) cargs[0] rfl (by simp [h0])
  have e : cargs = #[.slice A 0 0] := by
    apply Array.ext (by simp [h0])
    intro i h1 h2
    have : i = 0 := by omega
    subst this
    simpa using hv
  rw [e]
  refine (hs.2.1 A 0 w).mono ?_
  rintro e w' ⟨rfl, rfl⟩
  exact ⟨_, _, ob, cnt, m, rfl, hR, hr, Ext.refl .., #[], rfl, rfl, fun j s u hs => by simp at hs⟩

/-- A row is cut: the old name is dead, a new one stands for what is left. -/
theorem hr_cut (h : HR w0 Zc m ob cnt w) {o : Nm} {x : Ob} (k nm : Nat) (ho : ob o = some x) (hl : x.live = true) (hrow : x.isRow = true) (hf : x.frz = false) (hesz : x.esz = 1) (hk : k ≤ x.n) :
    HR w0 Zc (m.set (nm, cnt nm) (m.at_ o) (m.cap o)) (upd (upd ob o (some { x with live := false })) (nm, cnt nm) (some { x with n := k, cells := x.cells.take k })) (upd cnt nm (cnt nm + 1)) w ∧
      Ext w (vol m ob Zc) m ob w (vol (m.set (nm, cnt nm) (m.at_ o) (m.cap o)) (upd (upd ob o (some { x with live := false })) (nm, cnt nm) (some { x with n := k, cells := x.cells.take k })) Zc) (m.set (nm, cnt nm) (m.at_ o) (m.cap o))
        (upd (upd ob o (some { x with live := false })) (nm, cnt nm) (some { x with n := k, cells := x.cells.take k })) := by
  have hfr : ob (nm, cnt nm) = none := h.fresh nm _ (Nat.le_refl _)
  have hno : o ≠ (nm, cnt nm) := fun e => by rw [← e, ho] at hfr; cases hfr
  have hne : ∀ p, ob p ≠ none → p ≠ (nm, cnt nm) := fun p hp e => hp (e ▸ hfr)
  have get : ∀ (p : Nm) (y : Ob), upd (upd ob o (some { x with live := false })) (nm, cnt nm) (some { x with n := k, cells := x.cells.take k }) p = some y → y.live = true → (p = (nm, cnt nm) ∧ y = { x with n := k, cells := x.cells.take k }) ∨ (p ≠ (nm, cnt nm) ∧ p ≠ o ∧ ob p = some y) := by
    intro p y hp hyl
    by_cases e1 : p = (nm, cnt nm)
    · subst e1
      rw [upd_same] at hp
      injection hp with hp
      exact .inl ⟨rfl, hp.symm⟩
    · rw [upd_ne _ _ e1] at hp
      by_cases e2 : p = o
      · subst e2
        rw [upd_same] at hp
        injection hp with hp
        subst hp
        cases hyl
      · rw [upd_ne _ _ e2] at hp
        exact .inr ⟨e1, e2, hp⟩
  have at_new : (m.set (nm, cnt nm) (m.at_ o) (m.cap o)).at_ (nm, cnt nm) = m.at_ o := by simp [Map.set, upd_same]
  have cap_new : (m.set (nm, cnt nm) (m.at_ o) (m.cap o)).cap (nm, cnt nm) = m.cap o := by simp [Map.set, upd_same]
  have at_old : ∀ p, p ≠ (nm, cnt nm) → (m.set (nm, cnt nm) (m.at_ o) (m.cap o)).at_ p = m.at_ p := fun p hp => upd_ne _ _ hp
  have cap_old : ∀ p, p ≠ (nm, cnt nm) → (m.set (nm, cnt nm) (m.at_ o) (m.cap o)).cap p = m.cap p := fun p hp => upd_ne _ _ hp
  have ex : Ext w (vol m ob Zc) m ob w (vol (m.set (nm, cnt nm) (m.at_ o) (m.cap o)) (upd (upd ob o (some { x with live := false })) (nm, cnt nm) (some { x with n := k, cells := x.cells.take k })) Zc) (m.set (nm, cnt nm) (m.at_ o) (m.cap o))
        (upd (upd ob o (some { x with live := false })) (nm, cnt nm) (some { x with n := k, cells := x.cells.take k })) := by
    refine ⟨⟨fun _ _ _ => rfl, fun b _ hb => ?_, Nat.le_refl _⟩, fun p hp => at_old p (hne p hp), fun p hp => cap_old p (hne p hp), fun p y hp => ?_⟩
    · rcases hb with hb | ⟨p, y, hp, hyl, hyf, e⟩
      · exact .inl hb
      · rcases get p y hp hyl with ⟨rfl, rfl⟩ | ⟨e1, e2, hp'⟩
        · exact .inr ⟨o, x, ho, hl, hf, by rw [← e, at_new]⟩
        · exact .inr ⟨p, y, hp', hyl, hyf, by rw [← e, at_old p e1]⟩
    · rw [upd_ne _ _ (hne p (by rw [hp]; simp))]
      by_cases e2 : p = o
      · subst e2
        rw [ho] at hp
        injection hp with hp
        subst hp
        exact ⟨_, upd_same .., rfl, rfl⟩
      · exact ⟨y, by rw [upd_ne _ _ e2]; exact hp, rfl, rfl⟩
  refine ⟨⟨h.below, h.zc, fun n g hg => ?_, fun p y hp hyl => ?_, fun p y p' y' hp hyl hp' hyl' he => ?_⟩, ex⟩
  · by_cases e1 : n = nm
    · subst e1
      rw [upd_same] at hg
      rw [upd_ne _ _ (by intro e2; injection e2; omega)]
      have := h.fresh n g (by omega)
      rw [upd_ne _ _ (by rintro rfl; rw [ho] at this; cases this)]
      exact this
    · rw [upd_ne _ _ e1] at hg
      rw [upd_ne _ _ (by intro e2; injection e2; exact e1 (by assumption))]
      have := h.fresh n g hg
      rw [upd_ne _ _ (by rintro rfl; rw [ho] at this; cases this)]
      exact this
  · rcases get p y hp hyl with ⟨rfl, rfl⟩ | ⟨e1, e2, hp'⟩
    · obtain ⟨b1, arr, b2, b3, b4⟩ := h.obs o x ho hl
      rw [if_pos hrow] at b3
      refine ⟨by rw [at_new]; exact b1, arr, by rw [at_new]; exact b2, ?_, fun j v hv => ?_⟩
      · simp only [hrow, if_true, cap_new]
        refine ⟨b3.1, by omega, b3.2.2.1, ?_, b3.2.2.2.2.1, fun v hv => b3.2.2.2.2.2 v (List.mem_of_mem_take hv)⟩
        rw [List.length_take, b3.2.2.2.1, hesz]
        omega
      · simp only at hv
        rw [List.getElem?_take] at hv
        split at hv
        · obtain ⟨u, c1, c2, c3⟩ := b4 j v hv
          exact ⟨u, c1, c2, V1R.ext ex c3⟩
        · cases hv
    · exact OR.ext ex (by rw [hp']; simp) rfl (h.obs p y hp' hyl)
  · rcases get p y hp hyl with ⟨rfl, rfl⟩ | ⟨e1, e2, hq⟩ <;> rcases get p' y' hp' hyl' with ⟨rfl, rfl⟩ | ⟨e1', e2', hq'⟩
    · rfl
    · rw [at_new, at_old p' e1'] at he
      exact absurd (h.inj o x p' y' ho hl hq' hyl' he).symm e2'
    · rw [at_new, at_old p e1] at he
      exact absurd (h.inj p y o x hq hyl ho hl he) e2
    · rw [at_old p e1, at_old p' e1'] at he
      exact h.inj p y p' y' hq hyl hq' hyl' he

/-- What the library says of leaving out what repeats. -/
def CompSaid (P : Program) (f : FuncId) : Prop := (∀ (blk cap : Nat) (zs : List Int) (w : World), Holds (Value.int .i64) w blk 0 zs.toArray → zs.length ≤ 9223372036854775807 → zs.length ≤ cap →
    Calls P f #[.slice (some ⟨blk, 0, none⟩) zs.length cap] w fun e w' => e = .returned (.slice (some ⟨blk, 0, none⟩) (Lib.compact zs).length cap) ∧ ∃ q, w' = putRow (Value.int .i64) (Sort.ahead w q) blk 0 (Lib.compact zs ++ List.replicate (zs.length - (Lib.compact zs).length) 0).toArray) ∧
  (∀ (p : Option Addr) (cap : Nat) (w : World), Calls P f #[.slice p 0 cap] w fun e w' => e = .returned (.slice p 0 cap) ∧ w' = w) ∧ callable P f = true

theorem compact_le (zs : List Int) : (Lib.compact zs).length ≤ zs.length := by
  simp only [Lib.compact, Lib.compactUpTo, List.length_map]
  exact Nat.le_trans (List.length_filter_le _ _) (by simp)

theorem callS_compact {f : FuncId} (hs : CompSaid P f) {R : AV → (Nm → Option Ob) → (Nat → Nat) → Prop} {o : Nm} {x : Ob} {zs ts : List Int} (nm : Nat) (ho : ob o = some x) (hl : x.live = true) (hrow : x.isRow = true) (hf : x.frz = false) (hesz : x.esz = 1) (hn : x.n = zs.length) (hc : x.cells = zs.map fun z => .t (.int .i64 z))
    (hbig : zs.length ≤ 9223372036854775807) (hts : ts = Lib.compact zs ++ List.replicate (zs.length - (Lib.compact zs).length) 0)
    (hR : R (.one (.row (nm, cnt nm))) (upd (upd (upd ob o (some { x with cells := ts.map fun z => .t (.int .i64 z) })) o (some { x with live := false, cells := ts.map fun z => .t (.int .i64 z) })) (nm, cnt nm) (some { x with n := (Lib.compact zs).length, cells := (Lib.compact zs).map fun z => .t (.int .i64 z) })) (upd cnt nm (cnt nm + 1))) : CallS P f [.one (.row o)] ob cnt R := by
  refine ⟨hs.2.2, fun w0 Zc m w cargs hr hlen hargs => ?_⟩
  have h0 : cargs.size = 1 := by simpa using hlen.symm
  obtain ⟨x', hx', _, hv⟩ := hargs 0 (.one (.row o)) cargs[0] rfl (by simp [h0])
  rw [ho] at hx'
  injection hx' with hx'
  subst hx'
  have e : cargs = #[.slice (some ⟨m.at_ o, 0, none⟩) zs.length (m.cap o)] := by
    rw [hn] at hv
    apply Array.ext (by simp [h0])
    intro i h1 h2
    have : i = 0 := by omega
    subst this
    simpa using hv
  have hcap : zs.length ≤ m.cap o := by
    obtain ⟨_, arr, _, h2, _⟩ := hr.obs o x ho hl
    rw [if_pos hrow] at h2
    omega
  rw [e]
  refine (hs.1 (m.at_ o) (m.cap o) zs w (holds_row hr ho hl hrow hc) hbig hcap).mono ?_
  have hcl := compact_le zs
  have htl : ts.length = zs.length := by
    rw [hts]
    simp
    omega
  rintro e w' ⟨rfl, n, hw⟩
  obtain ⟨g1, g2⟩ := hr_put (w' := w') (ts := ts) (n := n) (os := #[]) hr ho hl hrow hf hesz hn hc htl (by rw [grow_empty, hts]; exact hw)
  obtain ⟨k1, k2⟩ := hr_cut g1 (o := o) (x := { x with cells := ts.map fun z => .t (.int .i64 z) }) (Lib.compact zs).length nm (upd_same ..) hl hrow hf hesz (show _ ≤ x.n by omega)
  have et : (ts.map fun z => V1.t (.int .i64 z)).take (Lib.compact zs).length = (Lib.compact zs).map fun z => .t (.int .i64 z) := by
    rw [← List.map_take, hts, List.take_left]
  simp only [et] at k1 k2
  refine ⟨_, _, _, _, _, rfl, hR, k1, g2.trans k2, ?_⟩
  exact ⟨_, upd_same .., hrow, by simp [Map.set, upd_same]⟩

theorem callS_compact_nil {f : FuncId} (hs : CompSaid P f) {R : AV → (Nm → Option Ob) → (Nat → Nat) → Prop} (hR : R (.one .nil) ob cnt) : CallS P f [.one .nil] ob cnt R := by
  refine ⟨hs.2.2, fun w0 Zc m w cargs hr hlen hargs => ?_⟩
  have h0 : cargs.size = 1 := by simpa using hlen.symm
  obtain ⟨A, hv⟩ := hargs 0 (.one .nil) cargs[0] rfl (by simp [h0])
  have e : cargs = #[.slice A 0 0] := by
    apply Array.ext (by simp [h0])
    intro i h1 h2
    have : i = 0 := by omega
    subst this
    simpa using hv
  rw [e]
  refine (hs.2.1 A 0 w).mono ?_
  rintro e w' ⟨rfl, rfl⟩
  exact ⟨_, .one .nil, ob, cnt, m, rfl, hR, hr, Ext.refl .., A, rfl⟩
end
end Go.Proofs.Ythapbbpdcjmmfaa.Abs
