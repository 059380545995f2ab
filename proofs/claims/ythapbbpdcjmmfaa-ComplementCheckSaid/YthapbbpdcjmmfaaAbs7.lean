/-
  Go's operations, compiled, do what the small code says: append, function values. No condition beyond those that each statement names.
-/
import Derived.Test.YthapbbpdcjmmfaaAbs6
import Derived.ArgAppend
namespace Go.Proofs.Ythapbbpdcjmmfaa.Abs
open Go.RowKit
set_option linter.unusedVariables false
set_option linter.unusedSimpArgs false

section ops
variable {P : Program} {o : Oper} {a : Act} {w w0 : World} {I : Ini} {Zc : Nat → Prop} {N : Nat} {m : Map} {S : St}

/-- append, a nil slice as the second one too. -/
theorem run_append_any (base : Nat) (t ty e : TypeId) (i : TypeInfo) (z : Value) (ht : P.underlying t = some (.slice e)) (hi : P.info? e = some i) (hz : i.zero = some z)
    (hzs : z.cells.size = i.size) (hsz : 0 < i.size) (v : Value) (n : Nat) (xs : List Value) (hown : w.ownsRow base e i.size v n xs)
    (A : Option Addr) (k c : Nat) (news : List Value) (hl : news.length = k * i.size) (hA : news ≠ [] → A ≠ none) (hnews : ∀ ad, A = some ad → ∀ (j : Nat) u, news[j]? = some u → w.cell? (ad.add j) = some u) (h1 : ∀ u ∈ news, u.oneCell' = true)
    (h63 : n + k ≤ maxLen) (hbytes : (n + k) * i.bytes ≤ 140737488355328) (hbase : base ≤ w.heap.size) :
    ∃ v' w', (Builtin.append_ #[t, t] ty #[v, .slice A k c]).run P w = .ok v' w' ∧ w'.ownsRow base e i.size v' (n + k) (xs ++ news) ∧ w.grownBy w' v.ownBlock ∧
      (v' = .slice none 0 0 ↔ v = .slice none 0 0 ∧ k = 0) ∧ (v'.ownBlock = v.ownBlock ∨ v'.ownBlock = some w.heap.size) := by
  cases A with
  | some ad => exact run_append_own_at w base t ty e i z i.size i.bytes ht hi hz rfl rfl hzs hsz v n xs hown ad k c news hl (hnews ad rfl) h1 h63 hbytes hbase
  | none =>
    have hn : news = [] := by
      cases news with
      | nil => rfl
      | cons x r => exact absurd rfl (hA (by simp))
    subst hn
    have hk : k = 0 := by
      rcases Nat.eq_zero_or_pos k with h | h
      · exact h
      · have := Nat.mul_pos h hsz
        simp only [List.length_nil] at hl
        omega
    subst hk
    refine ⟨v, w, ?_, by simpa using hown, ⟨rfl, rfl, rfl, Nat.le_refl _, fun _ _ _ => rfl⟩, by simp, .inl rfl⟩
    rcases hown.2 with ⟨rfl, rfl⟩ | ⟨g, cap, cur, rfl, _, _, hnc, _⟩
    · simp [Builtin.append_, run_underlying ht, sizeOf, typeInfo, hi, Builtin.lenOf, Builtin.firstCells]
    · simp [Builtin.append_, run_underlying ht, sizeOf, typeInfo, hi, Builtin.lenOf, Builtin.firstCells, hnc, storeCells]

theorem ownsRow_at {base e sz k : Nat} {v : Value} {xs : List Value} (h : w.ownsRow base e sz v k xs) (hk : 0 < k) : ∃ g cap cur, v = .slice (some ⟨g, 0, none⟩) k cap ∧ base ≤ g ∧ w.heap[g]? = some (.cells cur e (0, 0)) ∧ k ≤ cap ∧ cap ≤ maxLen ∧ cur.size = cap * sz ∧ cur.toList.take (k * sz) = xs := by
  rcases h.2 with ⟨_, h⟩ | h
  · omega
  · exact h

/-- append to a slice of no element and no room, nil or not. -/
theorem run_append_empty (base : Nat) (t ty e : TypeId) (i : TypeInfo) (z : Value) (ht : P.underlying t = some (.slice e)) (hi : P.info? e = some i) (hz : i.zero = some z)
    (hzs : z.cells.size = i.size) (hsz : 0 < i.size) (B : Option Addr)
    (A : Option Addr) (k c : Nat) (news : List Value) (hl : news.length = k * i.size) (hA : news ≠ [] → A ≠ none) (hnews : ∀ ad, A = some ad → ∀ (j : Nat) u, news[j]? = some u → w.cell? (ad.add j) = some u) (h1 : ∀ u ∈ news, u.oneCell' = true)
    (h63 : k ≤ maxLen) (hbytes : k * i.bytes ≤ 140737488355328) (hbase : base ≤ w.heap.size) :
    ∃ v' w', (Builtin.append_ #[t, t] ty #[.slice B 0 0, .slice A k c]).run P w = .ok v' w' ∧ w.grownBy w' none ∧
      (k = 0 → v' = .slice B 0 0) ∧ (0 < k → w'.ownsRow base e i.size v' k news ∧ v'.ownBlock = some w.heap.size) := by
  by_cases hk : k = 0
  · subst hk
    have hn : news = [] := List.eq_nil_of_length_eq_zero (by simpa using hl)
    subst hn
    refine ⟨.slice B 0 0, w, ?_, ⟨rfl, rfl, rfl, Nat.le_refl _, fun _ _ _ => rfl⟩, fun _ => rfl, fun h => absurd h (by omega)⟩
    cases A <;> cases B <;> simp [Builtin.append_, run_underlying ht, sizeOf, typeInfo, hi, Builtin.lenOf, Builtin.firstCells, loadCells, loadCellsFrom, storeCells]
  · have hpos : 0 < k := by omega
    cases B with
    | none =>
      obtain ⟨v', w', hrun, hown, hg, hnil, hat⟩ := run_append_any (P := P) (w := w) base t ty e i z ht hi hz hzs hsz (.slice none 0 0) 0 [] (World.ownsRow_nil ..) A k c news hl hA hnews h1 (by simpa using h63) (by simpa using hbytes) hbase
      simp only [Nat.zero_add, List.nil_append] at hown
      refine ⟨v', w', hrun, hg, fun h => absurd h hk, fun _ => ⟨hown, ?_⟩⟩
      rcases hat with h | h
      · obtain ⟨g, cap, cur, rfl, _⟩ := ownsRow_at hown hpos
        cases h
      · exact h
    | some b =>
      cases A with
      | none =>
        have hne : news ≠ [] := by
          rintro rfl
          have := Nat.mul_pos hpos hsz
          simp at hl
          omega
        exact absurd rfl (hA hne)
      | some ad =>
        obtain ⟨v', w', hrun, hown, hg⟩ := run_append_arg_grows (P := P) (w := w) t ty e i z i.size i.bytes ht hi hz rfl rfl hzs hsz b 0 0 [] (by simp) (fun j u h => by simp at h) ad k c news hl (hnews ad rfl) (by omega) (by simpa using h63) (by simpa using hbytes)
        have hr := run_append_grow (P := P) w t ty e i z ht hi hz b 0 0 [] (by simp) (fun j u h => by simp at h) ad k c news hl (hnews ad rfl) (by omega) (by simp only [maxLen] at h63; omega) (growslice_fits (by omega) (by simpa using hbytes))
        rw [hr] at hrun
        injection hrun with e1 e2
        subst e1 e2
        simp only [Nat.zero_add, List.nil_append] at hown hr hg ⊢
        refine ⟨_, _, hr, hg, fun h => absurd h hk, fun _ => ⟨⟨hown.1, ?_⟩, rfl⟩⟩
        rcases hown.2 with h | ⟨g, cap, cur, h1, h2, h3⟩
        · exact .inl h
        · exact .inr ⟨g, cap, cur, h1, by omega, h3⟩

theorem take_L1R {w : World} {Z : Nat → Prop} {m : Map} {ob : Nm → Option Ob} {cs : List V1} {arr : Array Value} (hle : cs.length ≤ arr.size)
    (h : ∀ (j : Nat) v, cs[j]? = some v → ∃ u, arr[j]? = some u ∧ u.oneCell' = true ∧ V1R w Z m ob v u) : L1R w Z m ob cs (arr.toList.take cs.length) := by
  refine ⟨by simp; omega, fun j v u hv hu => ?_⟩
  obtain ⟨u', h1, _, h3⟩ := h j v hv
  rw [List.getElem?_take] at hu
  split at hu
  · rw [Array.getElem?_toList, h1] at hu
    injection hu with hu
    subst hu
    exact h3
  · cases hu

/-- What an appended row says of the world behind. -/
theorem cur_of_take {w : World} {Z : Nat → Prop} {m : Map} {ob : Nm → Option Ob} {cs : List V1} {cur : Array Value} {us : List Value} {n : Nat} (h : L1R w Z m ob cs us) (ht : cur.toList.take n = us) :
    ∀ (j : Nat) v, cs[j]? = some v → ∃ u, cur[j]? = some u ∧ V1R w Z m ob v u := by
  intro j v hv
  have hj : j < us.length := by rw [← h.1]; exact (List.getElem?_eq_some_iff.1 hv).1
  refine ⟨us[j], ?_, h.2 j v _ hv (List.getElem?_eq_getElem hj)⟩
  have : (cur.toList.take n)[j]? = some us[j] := by rw [ht]; exact List.getElem?_eq_getElem hj
  rw [List.getElem?_take] at this
  split at this
  · rw [← Array.getElem?_toList]; exact this
  · cases this

theorem L1R.append {w : World} {Z : Nat → Prop} {m : Map} {ob : Nm → Option Ob} {a b : List V1} {us vs : List Value} (h : L1R w Z m ob a us) (h' : L1R w Z m ob b vs) : L1R w Z m ob (a ++ b) (us ++ vs) := by
  have e := h.1
  refine ⟨by simp [h.1, h'.1], fun j v u hv hu => ?_⟩
  rw [List.getElem?_append] at hv hu
  by_cases hj : j < a.length
  · rw [if_pos hj] at hv
    rw [if_pos (by omega)] at hu
    exact h.2 j v u hv hu
  · rw [if_neg hj] at hv
    rw [if_neg (by omega)] at hu
    exact h'.2 _ v u hv (by rw [e]; exact hu)

theorem go_append_nil {t e nm k : Nat} {x y : Operand} {x' y' : Arg} {i : TypeInfo} {zv : Value} {news ts : List V1} (s : Sim w0 I Zc N m S a w)
    (ho : o.op = .call { callee := .builtin .append, args := #[x, y], argTypes := #[t, t] }) (hx : cArg x = some x') (hy : cArg y = some y')
    (ht : P.underlying t = some (.slice e)) (hi : P.info? e = some i) (hpos : 0 < i.size) (hzv : i.zero = some zv) (hzs : zv.cells.size = i.size)
    (hys : sliceOf S (y'.ev S) = some (k, news)) (hts : trees news = some ts) (hxe : x'.ev S = .one .nil) (hb : k * i.bytes ≤ 140737488355328) (hlen : ts.length = k * i.size) (hm : k ≤ 9223372036854775807) :
    Goes P o a w w0 Zc m S (if k = 0 then S.val (.one .nil) else S.new nm ⟨true, true, false, i.size, k, e, ts⟩ (.one (.row (nm, S.cnt nm)))) := by
  have e1 := arg_spec s hx
  rw [hxe] at e1
  obtain ⟨B, e1⟩ : ∃ B, a.eval x = .slice B 0 0 := e1
  obtain ⟨A, c, us, hv, _, hl, hA, hc⟩ := slice_spec s (arg_spec s hy) hys
  have hlt := trees_spec hts hl
  obtain ⟨v', w', hrun, hg, h0, h1⟩ := run_append_empty (P := P) (w := w) w0.heap.size t o.type e i zv ht hi hzv hzs hpos B A k c us (by rw [← hlt.1.1]; exact hlen) hA hc (L1R.ones hl)
    (by simp only [maxLen]; omega) (by simpa using hb) s.heap.size
  have hr : (execOp a.eval o).run P w = .ok (.value v') w' := by
    simp [execOp, ho, resolve, invoke, builtin, e1, hv, hrun]
  have hb' : Below w.heap.size w w' := ⟨hg.os, hg.tape, hg.output, hg.size, fun q hq => hg.block q hq (by simp)⟩
  by_cases hk : k = 0
  · rw [if_pos hk]
    have e := h0 hk
    subst e
    have ex : Ext w (vol m S.ob Zc) m S.ob w' (vol m S.ob Zc) m S.ob := ⟨⟨fun q _ hq => hb'.block q hq, fun _ _ h => h, hb'.size⟩, fun _ _ => rfl, fun _ _ => rfl, fun p y h => ⟨y, h, rfl, rfl⟩⟩
    refine ⟨_, _, w', m, hr, .inl rfl, ⟨s.heap.below.trans (hb'.mono s.heap.size), s.heap.zc, s.heap.fresh, fun p y hp hl => ?_, s.heap.inj⟩, ex, ⟨B, rfl⟩⟩
    exact OR.ext ex (by rw [show S.ob p = some y from hp]; simp) (hb'.block _ (s.heap.at_lt hp hl)) (s.heap.obs p y hp hl)
  · rw [if_neg hk]
    obtain ⟨hown, hat⟩ := h1 (by omega)
    obtain ⟨g, cap, cur, rfl, hbase, hh, hn1, hn2, hn3, hn4⟩ := ownsRow_at hown (by omega)
    have hgs : g = w.heap.size := by injection hat
    subst hgs
    have hn4' : cur.toList.take us.length = us := by rw [← hlt.1.1, hlen]; exact hn4
    refine ⟨_, _, w', m.set (nm, S.cnt nm) w.heap.size cap, hr, .inl rfl, hr_new s.heap nm ⟨true, true, false, i.size, k, e, ts⟩ cap hb' (fun _ => ⟨cur, hh, ?_, cur_of_take hlt.1 hn4'⟩), ext_new s.heap nm _ cap (fun q hq => hb'.block q hq) hb'.size, ?_⟩
    · simp only [if_true]
      exact ⟨hn3, hn1, hn2, hlen, hpos, hlt.2⟩
    · exact ⟨_, by simp [St.new, upd_same]; rfl, rfl, by simp [Map.set, upd_same]⟩

theorem go_append_row {t e nm k : Nat} {x y : Operand} {x' y' : Arg} {i : TypeInfo} {zv : Value} {news ts : List V1} {p : Nm} {b : Ob} (s : Sim w0 I Zc N m S a w)
    (ho : o.op = .call { callee := .builtin .append, args := #[x, y], argTypes := #[t, t] }) (hx : cArg x = some x') (hy : cArg y = some y')
    (ht : P.underlying t = some (.slice e)) (hi : P.info? e = some i) (hpos : 0 < i.size) (hzv : i.zero = some zv) (hzs : zv.cells.size = i.size)
    (hys : sliceOf S (y'.ev S) = some (k, news)) (hts : trees news = some ts) (hxe : x'.ev S = .one (.row p)) (hp : S.live p = some b) (hrow : b.isRow = true) (hfz : b.frz = false) (hbe : b.esz = i.size) (hbt : b.typ = e)
    (hb : (b.n + k) * i.bytes ≤ 140737488355328) (hlen : ts.length = k * i.size) (hm : b.n + k ≤ 9223372036854775807) :
    Goes P o a w w0 Zc m S ⟨.one (.row (nm, S.cnt nm)), upd (upd S.ob p (some { b with live := false })) (nm, S.cnt nm) (some ⟨true, true, false, i.size, b.n + k, e, b.cells ++ ts⟩), upd S.cnt nm (S.cnt nm + 1)⟩ := by
  obtain ⟨hob, hlive⟩ := live_spec hp
  have e1 := arg_spec s hx
  rw [hxe] at e1
  obtain ⟨b', hb', _, e1⟩ := e1
  rw [hob] at hb'
  injection hb' with hb'
  subst hb'
  obtain ⟨hbase0, arr, g1, g2, g3⟩ := s.heap.obs _ _ hob hlive
  rw [if_pos hrow, hbe] at g2
  rw [hbt] at g1
  have hfit : b.cells.length ≤ arr.size := by rw [g2.1, g2.2.2.2.1]; exact Nat.mul_le_mul_right _ g2.2.1
  have hold := take_L1R hfit g3
  have hown0 : w.ownsRow w0.heap.size e i.size (.slice (some ⟨m.at_ p, 0, none⟩) b.n (m.cap p)) b.n (arr.toList.take b.cells.length) :=
    ⟨by rw [← hold.1]; exact g2.2.2.2.1, .inr ⟨m.at_ p, m.cap p, arr, rfl, hbase0, g1, g2.2.1, g2.2.2.1, g2.1, by rw [g2.2.2.2.1]⟩⟩
  obtain ⟨A, c, us, hv, _, hl, hA, hc⟩ := slice_spec s (arg_spec s hy) hys
  have hlt := trees_spec hts hl
  obtain ⟨v', w', hrun, hown, hg, hnil, hat⟩ := run_append_any (P := P) (w := w) w0.heap.size t o.type e i zv ht hi hzv hzs hpos _ _ _ hown0 A k c us (by rw [← hlt.1.1]; exact hlen) hA hc (L1R.ones hl)
    (by simp only [maxLen]; omega) hb s.heap.size
  have hr : (execOp a.eval o).run P w = .ok (.value v') w' := by
    simp [execOp, ho, resolve, invoke, builtin, e1, hv, hrun]
  rcases hown.2 with ⟨he, _⟩ | ⟨g, cap, cur, rfl, hbase, hh, hn1, hn2, hn3, hn4⟩
  · have := (hnil.1 he).1
    cases this
  have hgs : g = m.at_ p ∨ g = w.heap.size := by
    rcases hat with h | h
    · injection h with h; exact .inl h
    · injection h with h; exact .inr h
  have hplt := s.heap.at_lt hob hlive
  have hother : ∀ q, q < w.heap.size → q ≠ m.at_ p → w'.heap[q]? = w.heap[q]? := fun q hq hne => hg.block q hq (by simp [Value.ownBlock, hne])
  have hz : vol m S.ob Zc (m.at_ p) := .inr ⟨p, b, hob, hlive, hfz, rfl⟩
  have hnew : S.ob (nm, S.cnt nm) = none := s.heap.fresh nm _ (Nat.le_refl _)
  have hpn : p ≠ (nm, S.cnt nm) := by
    rintro rfl
    rw [hnew] at hob
    cases hob
  let ob' := upd (upd S.ob p (some { b with live := false })) (nm, S.cnt nm) (some (⟨true, true, false, i.size, b.n + k, e, b.cells ++ ts⟩ : Ob))
  have hobq : ∀ q, q ≠ p → q ≠ (nm, S.cnt nm) → ob' q = S.ob q := fun q h1 h2 => by simp [ob', upd_ne, h1, h2]
  have hobp : ob' p = some { b with live := false } := by simp [ob', upd_ne _ _ hpn, upd_same]
  have hobn : ob' (nm, S.cnt nm) = some (⟨true, true, false, i.size, b.n + k, e, b.cells ++ ts⟩ : Ob) := by simp [ob', upd_same]
  let m' := m.set (nm, S.cnt nm) g cap
  have hat' : ∀ q, q ≠ (nm, S.cnt nm) → m'.at_ q = m.at_ q := fun q hq => upd_ne _ _ hq
  have hcap' : ∀ q, q ≠ (nm, S.cnt nm) → m'.cap q = m.cap q := fun q hq => upd_ne _ _ hq
  have hatn : m'.at_ (nm, S.cnt nm) = g := upd_same ..
  have hcapn : m'.cap (nm, S.cnt nm) = cap := upd_same ..
  have hnen : ∀ q, S.ob q ≠ none → q ≠ (nm, S.cnt nm) := fun q hq e => hq (e ▸ hnew)
  have red : ∀ q x, ob' q = some x → x.live = true → q = (nm, S.cnt nm) ∨ (q ≠ p ∧ q ≠ (nm, S.cnt nm) ∧ S.ob q = some x) := by
    intro q x hq hxl
    by_cases h1 : q = (nm, S.cnt nm)
    · exact .inl h1
    · by_cases h2 : q = p
      · subst h2
        rw [hobp] at hq
        injection hq with hq
        subst hq
        cases hxl
      · rw [hobq q h2 h1] at hq
        exact .inr ⟨h2, h1, hq⟩
  have ex : Ext w (vol m S.ob Zc) m S.ob w' (vol m' ob' Zc) m' ob' := by
    refine ⟨⟨fun q hq hlt => hother q hlt (fun e => hq (e ▸ hz)), fun q hlt hq => ?_, hg.size⟩, fun q hq => hat' q (hnen q hq), fun q hq => hcap' q (hnen q hq), fun q x hq => ?_⟩
    · rcases hq with hq | ⟨r, x, hr1, hxl, hxf, he⟩
      · exact .inl hq
      · rcases red r x hr1 hxl with e1 | ⟨e1, e2, e3⟩
        · subst e1
          rw [hatn] at he
          rcases hgs with e2 | e2
          · exact .inr ⟨p, b, hob, hlive, hfz, by omega⟩
          · omega
        · exact .inr ⟨r, x, e3, hxl, hxf, by rw [← hat' r e2]; exact he⟩
    · by_cases e2 : q = p
      · subst e2
        rw [hob] at hq
        injection hq with hq
        subst hq
        exact ⟨_, hobp, rfl, rfl⟩
      · exact ⟨x, by rw [hobq q e2 (hnen q (by rw [hq]; simp))]; exact hq, rfl, rfl⟩
  have hbw : Below w0.heap.size w w' := ⟨hg.os, hg.tape, hg.output, hg.size, fun q hq => hother q (by have := s.heap.size; omega) (by omega)⟩
  have hcl : L1R w (vol m S.ob Zc) m S.ob (b.cells ++ ts) (arr.toList.take b.cells.length ++ us) := hold.append hlt.1
  refine ⟨_, _, w', m', hr, .inl rfl, (show HR w0 Zc m' ob' (upd S.cnt nm (S.cnt nm + 1)) w' from ⟨s.heap.below.trans hbw, s.heap.zc, fun q h hq => ?_, fun q x hq hxl => ?_, fun q x q' x' hq hxl hq' hxl' he => ?_⟩), ex, ?_⟩
  · by_cases e1 : q = nm
    · subst e1
      rw [upd_same] at hq
      have hn2 := s.heap.fresh q h (by omega)
      rw [hobq _ (by rintro rfl; rw [hn2] at hob; cases hob) (by intro e2; injection e2; omega)]
      exact hn2
    · rw [upd_ne _ _ e1] at hq
      have hn2 := s.heap.fresh q h hq
      rw [hobq _ (by rintro rfl; rw [hn2] at hob; cases hob) (by intro e2; injection e2; exact e1 (by assumption))]
      exact hn2
  · rcases red q x hq hxl with e1 | ⟨e1, e2, e3⟩
    · subst e1
      rw [hobn] at hq
      injection hq with hq
      subst hq
      refine ⟨by rw [hatn]; exact hbase, cur, by rw [hatn]; exact hh, ?_, fun j v hv => ?_⟩
      · simp only [if_true]
        rw [hcapn]
        refine ⟨hn3, hn1, hn2, by rw [List.length_append, hlen, g2.2.2.2.1, Nat.add_mul], hpos, fun v hv => ?_⟩
        rcases List.mem_append.1 hv with hv | hv
        · exact g2.2.2.2.2.2 v hv
        · exact hlt.2 v hv
      · obtain ⟨u, h1, h2⟩ := cur_of_take hcl hn4 j v hv
        exact ⟨u, h1, V1R.one h2, V1R.ext ex h2⟩
    · have hne : m.at_ q ≠ m.at_ p := fun h => e1 (s.heap.inj q x p b e3 hxl hob hlive h)
      exact OR.ext ex (by rw [e3]; simp) (hother _ (s.heap.at_lt e3 hxl) hne) (s.heap.obs q x e3 hxl)
  · rcases red q x hq hxl with e1 | ⟨e1, e2, e3⟩ <;> rcases red q' x' hq' hxl' with f1 | ⟨f1, f2, f3⟩
    · rw [e1, f1]
    · exfalso
      subst e1
      rw [hatn, hat' q' f2] at he
      have h1 := s.heap.at_lt f3 hxl'
      rcases hgs with h | h
      · exact f1 (s.heap.inj q' x' p b f3 hxl' hob hlive (by omega))
      · omega
    · exfalso
      subst f1
      rw [hatn, hat' q e2] at he
      have h1 := s.heap.at_lt e3 hxl
      rcases hgs with h | h
      · exact e1 (s.heap.inj q x p b e3 hxl hob hlive (by omega))
      · omega
    · rw [hat' q e2, hat' q' f2] at he
      exact s.heap.inj q x q' x' e3 hxl f3 hxl' he
  · exact ⟨_, hobn, rfl, by rw [hatn, hcapn]⟩

theorem go_mkfn {f : FuncId} {caps : Array Operand} {l : List Arg} {ns : List Nm} (s : Sim w0 I Zc N m S a w) (ho : o.op = .makeFunc (.func f) #[] caps) (hl : cArgs caps.toList = some l)
    (hn : l.mapM (fun c => match c.ev S with | .one (.ptr o 0) => some o | _ => none) = some ns) : Goes P o a w w0 Zc m S (S.val (.one (.fn f ns))) := by
  have key : ∀ (cs : List Operand) (l : List Arg) (ns : List Nm), cArgs cs = some l → l.mapM (fun c => match c.ev S with | .one (.ptr o 0) => some o | _ => none) = some ns →
      (∀ o ∈ ns, S.ob o ≠ none) ∧ cs.map a.eval = ns.map (ptrV m) := by
    intro cs
    induction cs with
    | nil =>
      intro l ns h1 h2
      injection h1 with h1; subst h1
      simp at h2
      subst h2
      exact ⟨fun o ho => (by cases ho), rfl⟩
    | cons c cs ih =>
      intro l ns h1 h2
      simp only [cArgs, Option.bind_eq_some_iff, Option.map_eq_some_iff] at h1
      obtain ⟨y, hy, ys, hys, rfl⟩ := h1
      simp only [List.mapM_cons, Option.bind_eq_bind, Option.bind_eq_some_iff, Option.pure_def, Option.some.injEq] at h2
      obtain ⟨n, hn, ns', hns, rfl⟩ := h2
      obtain ⟨i1, i2⟩ := ih ys ns' hys hns
      have h := arg_spec s hy
      split at hn
      · rename_i p hp
        injection hn with hn
        subst hn
        rw [hp] at h
        refine ⟨fun o ho => ?_, ?_⟩
        · rcases List.mem_cons.1 ho with rfl | ho
          · exact h.1
          · exact i1 o ho
        · rw [List.map_cons, List.map_cons, i2, h.2]
          rfl
      · cases hn
  obtain ⟨h1, h2⟩ := key _ l ns hl hn
  refine goes_val s (u := .func (.func f) #[] (caps.map a.eval)) (by simp [execOp, ho, Instr.makeFunc]) ⟨h1, ?_⟩
  rw [← h2]
  congr 1
  apply Array.ext'
  simp
end ops
end Go.Proofs.Ythapbbpdcjmmfaa.Abs
