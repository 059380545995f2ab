/-
  Go's operations, compiled, do what the small code says: numbers, addresses, loads and stores. No condition beyond those that each statement names.
-/
import Derived.Test.YthapbbpdcjmmfaaAbs4
namespace Go.Proofs.Ythapbbpdcjmmfaa.Abs
open Go.RowKit
set_option linter.unusedVariables false
set_option linter.unusedSimpArgs false

section ops
variable {P : Program} {o : Oper} {a : Act} {w w0 : World} {I : Ini} {Zc : Nat → Prop} {N : Nat} {m : Map} {S : St}

/-- The cells behind a pointer. -/
theorem rd_spec {w : World} (s : Sim w0 I Zc N m S a w) {sz : Nat} {x : AV} {v : Value} {vs : List V1} (h : AVR w (vol m S.ob Zc) m S.ob x v) (hr : rdAt S sz x = some vs) :
    ∃ (ad : Addr) (us : List Value), v = .pointer (some ad) ∧ vs.length = sz ∧ L1R w (vol m S.ob Zc) m S.ob vs us ∧ ∀ (j : Nat) u, us[j]? = some u → w.cell? (ad.add j) = some u := by
  unfold rdAt at hr
  split at hr
  · rename_i ob off
    split at hr
    · rename_i x hx
      split at hr
      · rename_i hle
        injection hr with hr
        subst hr
        obtain ⟨hob, hlive⟩ := live_spec hx
        obtain ⟨hbase, arr, h1, h2, h3⟩ := s.heap.obs _ _ hob hlive
        obtain ⟨hne, rfl⟩ := h
        refine ⟨⟨m.at_ ob, off, none⟩, (arr.toList.drop off).take sz, rfl, by simp; omega, ⟨?_, fun j v u hv hu => ?_⟩, fun j u hu => ?_⟩
        · have hsz : off + sz ≤ arr.size := by
            rcases Nat.eq_zero_or_pos sz with e | e
            · subst e
              rcases Nat.eq_zero_or_pos off with e' | e'
              · omega
              · obtain ⟨u, g1, _⟩ := h3 (off - 1) x.cells[off - 1] (List.getElem?_eq_getElem (by omega))
                have := (Array.getElem?_eq_some_iff.1 g1).1
                omega
            · obtain ⟨u, g1, _⟩ := h3 (off + sz - 1) x.cells[off + sz - 1] (List.getElem?_eq_getElem (by omega))
              have := (Array.getElem?_eq_some_iff.1 g1).1
              omega
          simp only [List.length_take, List.length_drop, Array.length_toList]
          omega
        · rw [List.getElem?_take] at hv hu
          split at hv
          · rename_i hj
            rw [if_pos hj] at hu
            rw [List.getElem?_drop] at hv hu
            obtain ⟨u', g1, _, g3⟩ := h3 _ v hv
            rw [Array.getElem?_toList, g1] at hu
            injection hu with hu
            subst hu
            exact g3
          · cases hv
        · rw [List.getElem?_take] at hu
          split at hu
          · rw [List.getElem?_drop, Array.getElem?_toList] at hu
            have hadd : (⟨m.at_ ob, off, none⟩ : Addr).add j = ⟨m.at_ ob, off + j, none⟩ := by unfold Addr.add; split <;> simp_all
            rw [hadd, cell_of_row w _ _ _ _ _ h1]
            exact hu
          · cases hu
      · cases hr
    · cases hr
  · rename_i cs
    split at hr
    · rename_i hle
      injection hr with hr
      subst hr
      obtain ⟨ad, rfl, hz, hc⟩ := h
      have hex : ∀ j : Nat, ∃ u, j < cs.length → w.cell? (ad.add j) = some u ∧ ∀ c, cs[j]? = some c → CR w (vol m S.ob Zc) c u := by
        intro j
        by_cases hj : j < cs.length
        · obtain ⟨u, g1, g2⟩ := hc j cs[j] (List.getElem?_eq_getElem hj)
          exact ⟨u, fun _ => ⟨g1, fun c hcc => by rw [List.getElem?_eq_getElem hj] at hcc; injection hcc with hcc; subst hcc; exact g2⟩⟩
        · exact ⟨default, fun h => absurd h hj⟩
      let f : Nat → Value := fun j => (hex j).choose
      have hf : ∀ j, j < cs.length → w.cell? (ad.add j) = some (f j) ∧ ∀ c, cs[j]? = some c → CR w (vol m S.ob Zc) c (f j) := fun j => (hex j).choose_spec
      refine ⟨ad, (List.range sz).map f, rfl, by simp; omega, ⟨by simp; omega, fun j v u hv hu => ?_⟩, fun j u hu => ?_⟩
      · simp only [List.getElem?_map, List.getElem?_take, Option.map_eq_some_iff] at hv
        obtain ⟨c, hcc, rfl⟩ := hv
        split at hcc
        · rename_i hj
          simp [List.getElem?_range hj] at hu
          subst hu
          exact (hf j (by omega)).2 c hcc
        · cases hcc
      · simp only [List.getElem?_map, Option.map_eq_some_iff] at hu
        obtain ⟨q, hq, rfl⟩ := hu
        obtain ⟨h1, rfl⟩ := List.getElem?_eq_some_iff.1 hq
        simp at h1 ⊢
        exact (hf j (by omega)).1
    · cases hr
  · cases hr

theorem run_isAgg_of {t : TypeId} {b : Bool} (h : aggB P t = some b) (w : World) : (isAgg t).run P w = .ok b w := by
  unfold aggB at h
  cases hu : P.underlying t with
  | none => simp [hu] at h
  | some d =>
    simp only [isAgg, Sem.run_bind, run_underlying hu, Result.andThen_ok]
    cases d <;> simp [hu] at h <;> subst h <;> rfl

theorem size_spec {t : TypeId} {n : Nat} (h : sizeB P t = some n) (w : World) : (sizeOf t).run P w = .ok n w := by
  simp only [sizeB, Option.map_eq_some_iff] at h
  obtain ⟨i, hi, rfl⟩ := h
  simp [sizeOf, typeInfo, hi]

theorem go_load_agg {t : TypeId} {x : Operand} {y : Arg} {sz : Nat} {vs : List V1} (s : Sim w0 I Zc N m S a w) (ho : o.op = .load t x) (hy : cArg x = some y) (hb : aggB P t = some true) (hs : sizeB P t = some sz)
    (hr : rdAt S sz (y.ev S) = some vs) : Goes P o a w w0 Zc m S (S.val (.agg vs)) := by
  obtain ⟨ad, us, hv, hl, h2, h3⟩ := rd_spec s (arg_spec s hy) hr
  refine goes_val s (u := .agg us.toArray) ?_ ⟨us.toArray, rfl, by simpa using h2⟩
  have hlen : us.length = sz := by rw [← h2.1]; exact hl
  have hrun := run_loadCells_list (P := P) w ad us h3
  simp only [execOp, ho, Instr.loadAt, hv, Instr.sureAddr, loadVar, Sem.run_bind, Sem.run_pure, Result.andThen_ok, run_isAgg_of hb, if_true, size_spec hs, ← hlen, hrun]

theorem go_load_one {t : TypeId} {x : Operand} {y : Arg} {v1 : V1} (s : Sim w0 I Zc N m S a w) (ho : o.op = .load t x) (hy : cArg x = some y) (hb : aggB P t = some false)
    (hr : rdAt S 1 (y.ev S) = some [v1]) : Goes P o a w w0 Zc m S (S.val (.one v1)) := by
  obtain ⟨ad, us, hv, hl, h2, h3⟩ := rd_spec s (arg_spec s hy) hr
  match us, h2.1 with
  | [u], _ =>
    refine goes_val s (u := u) ?_ (h2.2 0 v1 u rfl rfl)
    have hc := h3 0 u rfl
    rw [show ad.add 0 = ad from rfl] at hc
    simp only [execOp, ho, Instr.loadAt, hv, Instr.sureAddr, loadVar, Sem.run_bind, Sem.run_pure, Result.andThen_ok, run_isAgg_of hb, Bool.false_eq_true, if_false, run_load, hc]

theorem go_store {t : TypeId} {ax x : Operand} {ay y : Arg} {sz off : Nat} {ob : Nm} {b : Ob} {vs ts : List V1} (s : Sim w0 I Zc N m S a w) (ho : o.op = .store t ax x) (hay : cArg ax = some ay) (hy : cArg x = some y)
    (hs : sizeB P t = some sz) (hpe : ay.ev S = .one (.ptr ob off)) (hv : (y.ev S).cells = some vs) (hb : S.live ob = some b) (hf : b.frz = false) (hl : vs.length = sz) (hfit : off + sz ≤ b.cells.length)
    (hts : if b.isRow then trees vs = some ts else ts = vs) : Goes P o a w w0 Zc m S ⟨.undef, upd S.ob ob (some { b with cells := splice b.cells off ts }), S.cnt⟩ := by
  obtain ⟨hob, hlive⟩ := live_spec hb
  obtain ⟨hbase, arr, h1, h2, h3⟩ := s.heap.obs _ _ hob hlive
  have hpv := arg_spec s hay
  rw [hpe] at hpv
  obtain ⟨_, hpv⟩ := hpv
  have hc := cells_spec (arg_spec s hy) hv
  have hcs : L1R w (vol m S.ob Zc) m S.ob ts (a.eval x).cells.toList ∧ (b.isRow = true → ∀ v ∈ ts, ∃ c, v = .t c) := by
    split at hts
    · have := trees_spec hts hc
      exact ⟨this.1, fun _ => this.2⟩
    · subst hts
      exact ⟨hc, fun h => absurd h (by assumption)⟩
  have hlt : ts.length = sz := by rw [hcs.1.1, ← hc.1]; exact hl
  have hsize : (a.eval x).cells.size = sz := by rw [← Array.length_toList, ← hc.1]; exact hl
  have harr : b.cells.length ≤ arr.size := by
    rcases Nat.eq_zero_or_pos b.cells.length with e | e
    · omega
    · obtain ⟨u, g1, _⟩ := h3 (b.cells.length - 1) b.cells[b.cells.length - 1] (List.getElem?_eq_getElem (by omega))
      have := (Array.getElem?_eq_some_iff.1 g1).1
      omega
  let arr' : Array Value := (arr.toList.take (off + 0) ++ (a.eval x).cells.toList ++ arr.toList.drop (off + 0 + (a.eval x).cells.toList.length)).toArray
  have hrun := run_storeCells_at (P := P) (m.at_ ob) off b.typ (a.eval x).cells.toList 0 arr w h1 (by simp; omega) (L1R.ones hcs.1)
  have hz : vol m S.ob Zc (m.at_ ob) := .inr ⟨ob, b, hob, hlive, hf, rfl⟩
  have hother : ∀ k, k ≠ m.at_ ob → (w.setRow (m.at_ ob) arr').heap[k]? = w.heap[k]? := fun k hk => setRow_other w _ _ _ hk
  have hvol : ∀ q, vol m (upd S.ob ob (some { b with cells := splice b.cells off ts })) Zc q → vol m S.ob Zc q := by
    rintro q (hq | ⟨p, x, hpx, hxl, hxf, e⟩)
    · exact .inl hq
    · by_cases e' : p = ob
      · subst e'
        exact .inr ⟨p, b, hob, hlive, hf, e⟩
      · rw [upd_ne _ _ e'] at hpx
        exact .inr ⟨p, x, hpx, hxl, hxf, e⟩
  have e : Ext w (vol m S.ob Zc) m S.ob (w.setRow (m.at_ ob) arr') (vol m (upd S.ob ob (some { b with cells := splice b.cells off ts })) Zc) m (upd S.ob ob (some { b with cells := splice b.cells off ts })) := by
    refine ⟨⟨fun k hk _ => hother k (fun e => hk (e ▸ hz)), fun k _ hk => hvol k hk, by simp [World.setRow]⟩, fun _ _ => rfl, fun _ _ => rfl, fun p x hp => ?_⟩
    by_cases e' : p = ob
    · subst e'
      rw [hob] at hp
      injection hp with hp
      subst hp
      exact ⟨_, upd_same .., rfl, rfl⟩
    · exact ⟨x, by rw [upd_ne _ _ e']; exact hp, rfl, rfl⟩
  refine ⟨.skip, undef, w.setRow (m.at_ ob) arr', m, ?_, .inr ⟨rfl, rfl⟩, (show HR w0 Zc m (upd S.ob ob (some { b with cells := splice b.cells off ts })) S.cnt _ from ?_), e, rfl⟩
  · simp only [execOp, ho, Instr.storeAt, hpv, Instr.sureAddr, storeVar, Sem.run_bind, Sem.run_pure, Result.andThen_ok, size_spec hs, hsize]
    simp only [ne_eq, not_true_eq_false, if_false, hrun, Result.andThen_ok, arr', Sem.run_ite]
  · refine ⟨s.heap.below.trans ⟨rfl, rfl, rfl, by simp [World.setRow], fun k hk => hother k (by omega)⟩, s.heap.zc, fun nm g hg => ?_, fun p x hp hxl => ?_, fun p x p' x' hp hxl hp' hxl' he => ?_⟩
    · have hn := s.heap.fresh nm g hg
      rw [upd_ne _ _ (by rintro rfl; rw [hob] at hn; cases hn)]
      exact hn
    · by_cases e' : p = ob
      · subst e'
        rw [upd_same] at hp
        injection hp with hp
        subst hp
        refine ⟨hbase, arr', setRow_heap w _ _ _ _ _ h1, ?_, fun j v hv => ?_⟩
        · have hsz' : arr'.size = arr.size := by
            simp only [arr', List.size_toArray, List.length_append, List.length_take, List.length_drop, Array.length_toList]
            omega
          show if b.isRow then _ else _
          by_cases hrow : b.isRow = true
          · rw [if_pos hrow] at h2 ⊢
            refine ⟨by rw [hsz']; exact h2.1, h2.2.1, h2.2.2.1, by rw [splice_length _ _ _ (by omega)]; exact h2.2.2.2.1, h2.2.2.2.2.1, fun v hv => ?_⟩
            rcases List.mem_append.1 hv with hv | hv
            · rcases List.mem_append.1 hv with hv | hv
              · exact h2.2.2.2.2.2 v (List.mem_of_mem_take hv)
              · exact hcs.2 hrow v hv
            · exact h2.2.2.2.2.2 v (List.mem_of_mem_drop hv)
          · rw [if_neg hrow] at h2 ⊢
            rw [hsz', splice_length _ _ _ (by omega)]
            exact h2
        · have hsp : arr'.toList = Abs.splice arr.toList off (a.eval x).cells.toList := by simp [arr', Abs.splice]
          have hv2 := hv
          rw [splice_get _ _ _ (by omega)] at hv2
          split at hv2
          · rename_i hj
            have hjl : j - off < (a.eval x).cells.toList.length := by rw [← hcs.1.1]; omega
            refine ⟨(a.eval x).cells.toList[j - off], ?_, L1R.ones hcs.1 _ (List.getElem_mem hjl), V1R.ext e (hcs.1.2 _ v _ hv2 (List.getElem?_eq_getElem hjl))⟩
            rw [← Array.getElem?_toList, hsp, splice_get _ _ _ (by simp; omega), if_pos (by simp; omega), List.getElem?_eq_getElem hjl]
          · rename_i hj
            obtain ⟨u, g1, g2, g3⟩ := h3 j v hv2
            refine ⟨u, ?_, g2, V1R.ext e g3⟩
            rw [← Array.getElem?_toList, hsp, splice_get _ _ _ (by simp; omega), if_neg (by simp; omega), Array.getElem?_toList, g1]
      · rw [upd_ne _ _ e'] at hp
        exact OR.ext e (by rw [hp]; simp) (hother _ (fun q => e' (s.heap.inj p x ob b hp hxl hob hlive q))) (s.heap.obs p x hp hxl)
    · have red : ∀ p x, upd S.ob ob (some { b with cells := splice b.cells off ts }) p = some x → x.live = true → ∃ y, S.ob p = some y ∧ y.live = true := by
        intro p x hp hl
        by_cases e' : p = ob
        · subst e'
          exact ⟨b, hob, hlive⟩
        · rw [upd_ne _ _ e'] at hp
          exact ⟨x, hp, hl⟩
      obtain ⟨y, hy, hyl⟩ := red p x hp hxl
      obtain ⟨y', hy', hyl'⟩ := red p' x' hp' hxl'
      exact s.heap.inj p y p' y' hy hyl hy' hyl' he
end ops
end Go.Proofs.Ythapbbpdcjmmfaa.Abs
