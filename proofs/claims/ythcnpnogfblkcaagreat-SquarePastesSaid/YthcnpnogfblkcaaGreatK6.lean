/-
  Joined texts: the theorem of this claim and its last steps. No condition beyond those that each statement names.
-/
import Derived.Test.YthcnpnogfblkcaaGreatK5
import Derived.Test.YthcnpnogfblkcaaGreatRows
import Derived.WalkKit
import Derived.ProofKit
import Derived.OpenShut
import Derived.ChangeOld
import Derived.Below
import Derived.Carry
import Derived.Test.YthcnpnogfblkcaaGreatProg
import Derived.KernelRfl
/- Squares, graphs and morphisms as arguments, opened. -/
namespace Go.Proofs.YthcnpnogfblkcaaGreat
open Abs
open Go.ChangeShapes Go.WideShapes Go.ChangeAt Go.RowKit
set_option linter.unusedSimpArgs false
set_option linter.unusedVariables false

theorem own : ownKnob Tryz.prog.godebug = none := by kernel_rfl
theorem laidOut : laidOutB Tryz.prog = true := by kernel_rfl
theorem oI : OpensI Tryz.prog 22 := opensI Tryz.underlying22 Tryz.underlying3 (by kernel_rfl) (by kernel_rfl)
theorem oE : OpensE Tryz.prog 23 := opensE Tryz.underlying23 Tryz.underlying76 ⟨rfl, rfl, rfl, rfl, rfl, rfl⟩ Tryz.underlying3 (by kernel_rfl) (by kernel_rfl) (by kernel_rfl)
theorem oG : OpensG Tryz.prog 25 := opensG Tryz.underlying25 ⟨rfl, rfl, rfl, rfl⟩ (by kernel_rfl) (by kernel_rfl) (by kernel_rfl) oI oE
theorem oM : OpensP Tryz.prog 27 := opensP Tryz.underlying27 ⟨rfl, rfl, rfl, rfl⟩ (by kernel_rfl) (by kernel_rfl) oI
theorem cG : Tryz.prog.cellsOf 25 = 2 := by kernel_rfl
theorem cM : Tryz.prog.cellsOf 27 = 2 := by kernel_rfl
theorem cS : Tryz.prog.cellsOf 29 = 16 := by kernel_rfl

def BoundG (g : Gr) : Prop := bound g.nodes.length ∧ bound g.edges.length
def BoundP (g : Pa) : Prop := bound g.nodes.length ∧ bound g.edges.length
structure BoundSq (s : Sq) : Prop where
  A : BoundG s.A
  B : BoundG s.B
  C : BoundG s.C
  D : BoundG s.D
  F : BoundP s.F
  G : BoundP s.G
  H : BoundP s.H
  K : BoundP s.K

theorem two_cells {w : World} {Z : Nat → Prop} {us : Array Value} {v0 v1 : Value} {c0 c1 : Abs.C} (e : us.toList = [v0, v1]) (h0 : CR w Z c0 v0) (h1 : CR w Z c1 v1) : TVR w Z (true, [c0, c1]) (.agg us) := by
  refine ⟨us, rfl, by simp [e], fun j c u hc hu => ?_⟩
  rw [e] at hu
  match j, hc, hu with
  | 0, hc, hu | 1, hc, hu =>
    simp at hc hu
    subst hc hu
    assumption
  | j + 2, hc, _ => simp at hc

/-- A graph, opened. -/
theorem open_graph {H : Type} {enc : TypeId × Value → H} {w : World} {base : Nat} {spare : Nat → Bool} {held : Bool} {v : Value} {d : DataW H} {ps : List MemPlace} (h : DataW.Trod enc Tryz.prog w base spare held 25 v d ps)
    (hw : (d.weights Tryz.prog 25).all (· ≤ reachBytes) = true) : ∃ g : Gr, TVR w (fun _ => False) g.v v ∧ BoundG g := by
  obtain ⟨fuel, hf⟩ := h
  obtain ⟨p, v0, v1, e, c0, c1, b0, b1⟩ := oG _ _ _ _ _ _ _ _ _ hf hw
  have hv : ∃ us : Array Value, v = .agg us := by
    cases v <;> first | exact ⟨_, rfl⟩ | (simp [Value.cells] at e)
  obtain ⟨us, rfl⟩ := hv
  have e : us.toList = [v0, v1] := e
  exact ⟨p, two_cells e c0 c1, b0, b1⟩

/-- A morphism, opened. -/
theorem open_mor {H : Type} {enc : TypeId × Value → H} {w : World} {base : Nat} {spare : Nat → Bool} {held : Bool} {v : Value} {d : DataW H} {ps : List MemPlace} (h : DataW.Trod enc Tryz.prog w base spare held 27 v d ps)
    (hw : (d.weights Tryz.prog 27).all (· ≤ reachBytes) = true) : ∃ g : Pa, TVR w (fun _ => False) g.v v ∧ BoundP g := by
  obtain ⟨fuel, hf⟩ := h
  obtain ⟨p, v0, v1, e, c0, c1, b0, b1⟩ := oM _ _ _ _ _ _ _ _ _ hf hw
  have hv : ∃ us : Array Value, v = .agg us := by
    cases v <;> first | exact ⟨_, rfl⟩ | (simp [Value.cells] at e)
  obtain ⟨us, rfl⟩ := hv
  have e : us.toList = [v0, v1] := e
  exact ⟨p, two_cells e c0 c1, b0, b1⟩

/-- A square, opened. -/
theorem open_sq {H : Type} {enc : TypeId × Value → H} {w : World} {base : Nat} {spare : Nat → Bool} {held : Bool} {v : Value} {d : DataW H} {ps : List MemPlace} (h : DataW.Trod enc Tryz.prog w base spare held 29 v d ps)
    (hw : (d.weights Tryz.prog 29).all (· ≤ reachBytes) = true) : ∃ s : Sq, TVR w (fun _ => False) s.v v ∧ BoundSq s := by
  obtain ⟨fuel, hf⟩ := h
  obtain ⟨xs, n, _, hx, hl, hlen, hfs⟩ := DataW.trod_struct Tryz.underlying29 hf
  rw [cS] at hl
  match xs, hlen with
  | [y0, y1, y2, y3, y4, y5, y6, y7], _ =>
    have g0 := hfs 0 _ rfl
    have g1 := hfs 1 _ rfl
    have g2 := hfs 2 _ rfl
    have g3 := hfs 3 _ rfl
    have g4 := hfs 4 _ rfl
    have g5 := hfs 5 _ rfl
    have g6 := hfs 6 _ rfl
    have g7 := hfs 7 _ rfl
    obtain ⟨rfl, rfl⟩ := Prod.mk.inj hx
    have hw : ((y0.1.weights Tryz.prog 25 ++ (y1.1.weights Tryz.prog 25 ++ (y2.1.weights Tryz.prog 25 ++ (y3.1.weights Tryz.prog 25 ++ (y4.1.weights Tryz.prog 27 ++ (y5.1.weights Tryz.prog 27 ++ (y6.1.weights Tryz.prog 27 ++ (y7.1.weights Tryz.prog 27 ++ [])))))))).all (· ≤ reachBytes)) = true := by
      simpa [DataW.weights, Tryz.underlying29, DataW.weightsEach] using hw
    simp only [List.all_append, Bool.and_eq_true] at hw
    obtain ⟨w0, w1, w2, w3, w4, w5, w6, w7, _⟩ := hw
    have hv : ∃ us : Array Value, v = .agg us := by
      cases v <;> first | exact ⟨_, rfl⟩ | (simp [Value.cells] at hl)
    obtain ⟨us, rfl⟩ := hv
    have hl : us.toList.length = 16 := hl
    match hu : us.toList, hl with
    | [a0, a1, a2, a3, a4, a5, a6, a7, a8, a9, a10, a11, a12, a13, a14, a15], _ =>
      simp only [Value.cells, hu] at g0 g1 g2 g3 g4 g5 g6 g7
      obtain ⟨x0, v0, v1, e0, c0, c1, b0, b1⟩ := oG _ _ _ _ _ _ _ _ _ g0 w0
      obtain ⟨x1, v2, v3, e1, c2, c3, b2, b3⟩ := oG _ _ _ _ _ _ _ _ _ g1 w1
      obtain ⟨x2, v4, v5, e2, c4, c5, b4, b5⟩ := oG _ _ _ _ _ _ _ _ _ g2 w2
      obtain ⟨x3, v6, v7, e3, c6, c7, b6, b7⟩ := oG _ _ _ _ _ _ _ _ _ g3 w3
      obtain ⟨x4, v8, v9, e4, c8, c9, b8, b9⟩ := oM _ _ _ _ _ _ _ _ _ g4 w4
      obtain ⟨x5, v10, v11, e5, c10, c11, b10, b11⟩ := oM _ _ _ _ _ _ _ _ _ g5 w5
      obtain ⟨x6, v12, v13, e6, c12, c13, b12, b13⟩ := oM _ _ _ _ _ _ _ _ _ g6 w6
      obtain ⟨x7, v14, v15, e7, c14, c15, b14, b15⟩ := oM _ _ _ _ _ _ _ _ _ g7 w7
      simp [cG, cM] at e0 e1 e2 e3 e4 e5 e6 e7
      obtain ⟨rfl, rfl⟩ := e0
      obtain ⟨rfl, rfl⟩ := e1
      obtain ⟨rfl, rfl⟩ := e2
      obtain ⟨rfl, rfl⟩ := e3
      obtain ⟨rfl, rfl⟩ := e4
      obtain ⟨rfl, rfl⟩ := e5
      obtain ⟨rfl, rfl⟩ := e6
      obtain ⟨rfl, rfl⟩ := e7
      refine ⟨⟨x0, x1, x2, x3, x4, x5, x6, x7⟩, ⟨us, rfl, by simp [hu, Sq.cs], fun j c u hc hu' => ?_⟩, ⟨⟨b0, b1⟩, ⟨b2, b3⟩, ⟨b4, b5⟩, ⟨b6, b7⟩, ⟨b8, b9⟩, ⟨b10, b11⟩, ⟨b12, b13⟩, ⟨b14, b15⟩⟩⟩
      rw [hu] at hu'
      match j, hc, hu' with
      | 0, hc, hu' | 1, hc, hu' | 2, hc, hu' | 3, hc, hu' | 4, hc, hu' | 5, hc, hu' | 6, hc, hu' | 7, hc, hu' | 8, hc, hu' | 9, hc, hu' | 10, hc, hu' | 11, hc, hu' | 12, hc, hu' | 13, hc, hu' | 14, hc, hu' | 15, hc, hu' =>
        simp [Sq.cs] at hc hu'
        subst hc hu'
        assumption
      | j + 16, hc, _ => simp [Sq.cs] at hc
end Go.Proofs.YthcnpnogfblkcaaGreat

/- Descriptions, lists of bytes and words as arguments, opened. -/
namespace Go.Proofs.YthcnpnogfblkcaaGreat
open Abs
open Go.ChangeShapes Go.WideShapes Go.RowKit
set_option linter.unusedSimpArgs false
set_option linter.unusedVariables false

theorem oB : OpensB Tryz.prog 39 := fun H enc w base spare held fuel cs x h => open_by_list Tryz.underlying39 Tryz.underlying5 (by kernel_rfl) h
theorem oT : OpensT Tryz.prog 40 := fun H enc w base spare held fuel cs x h => open_t3_list Tryz.underlying40 Tryz.underlying91 Tryz.underlying5 (by kernel_rfl) (by kernel_rfl) h

theorem oD : OpensD Tryz.prog 42 := opensD Tryz.underlying42 ⟨rfl, rfl, rfl, rfl⟩ (by kernel_rfl) (by kernel_rfl) (by kernel_rfl) oB oT

theorem oA : OpensD Tryz.prog 44 := opensD Tryz.underlying44 ⟨rfl, rfl, rfl, rfl⟩ (by kernel_rfl) (by kernel_rfl) (by kernel_rfl) oB oT

theorem open_draft {H : Type} {enc : TypeId × Value → H} {w : World} {base : Nat} {spare : Nat → Bool} {held : Bool} {v : Value} {d : DataW H} {ps : List MemPlace} (h : DataW.Trod enc Tryz.prog w base spare held 42 v d ps)
    (hw : (d.weights Tryz.prog 42).all (· ≤ reachBytes) = true) : ∃ x : Dr, TVR w (fun _ => False) x.v v ∧ BoundD x := oD _ _ _ _ _ _ _ _ _ h

theorem open_above {H : Type} {enc : TypeId × Value → H} {w : World} {base : Nat} {spare : Nat → Bool} {held : Bool} {v : Value} {d : DataW H} {ps : List MemPlace} (h : DataW.Trod enc Tryz.prog w base spare held 44 v d ps)
    (hw : (d.weights Tryz.prog 44).all (· ≤ reachBytes) = true) : ∃ x : Dr, TVR w (fun _ => False) x.v v ∧ BoundD x := oA _ _ _ _ _ _ _ _ _ h

theorem open_bytes2 {H : Type} {enc : TypeId × Value → H} {w : World} {base : Nat} {spare : Nat → Bool} {held : Bool} {v : Value} {d : DataW H} {ps : List MemPlace} (h : DataW.Trod enc Tryz.prog w base spare held 43 v d ps)
    (hw : (d.weights Tryz.prog 43).all (· ≤ reachBytes) = true) : ∃ x, TVR w (fun _ => False) (by2V x) v ∧ BoundB2 x := opens_bytes2 oB Tryz.underlying43 (by kernel_rfl) (by kernel_rfl) h

theorem open_bytes3 {H : Type} {enc : TypeId × Value → H} {w : World} {base : Nat} {spare : Nat → Bool} {held : Bool} {v : Value} {d : DataW H} {ps : List MemPlace} (h : DataW.Trod enc Tryz.prog w base spare held 72 v d ps)
    (hw : (d.weights Tryz.prog 72).all (· ≤ reachBytes) = true) : ∃ x, TVR w (fun _ => False) (by3V x) v ∧ BoundB3 x := opens_bytes3 oB Tryz.underlying72 (by kernel_rfl) (by kernel_rfl) h

theorem open_bytes {H : Type} {enc : TypeId × Value → H} {w : World} {base : Nat} {spare : Nat → Bool} {held : Bool} {v : Value} {d : DataW H} {ps : List MemPlace} (h : DataW.Trod enc Tryz.prog w base spare held 39 v d ps)
    (hw : (d.weights Tryz.prog 39).all (· ≤ reachBytes) = true) (hs : ∃ a len cap, v = Value.slice a len cap) : ∃ x, TVR w (fun _ => False) (byV x) v ∧ BoundB x ∧ (x = [] ∨ ∃ es sp, d = .slice es sp ∧ es.length = x.length) := by
  obtain ⟨a, len, cap, rfl⟩ := hs
  exact opens_bytes oB h fun _ => rfl

theorem open_u64 {H : Type} {enc : TypeId × Value → H} {w : World} {base : Nat} {spare : Nat → Bool} {held : Bool} {v : Value} {d : DataW H} {ps : List MemPlace} (h : DataW.Trod enc Tryz.prog w base spare held 60 v d ps)
    (hw : (d.weights Tryz.prog 60).all (· ≤ reachBytes) = true) (hs : ∃ n, v = Value.int .u64 n) : ∃ x, TVR w (fun _ => False) (u64V x) v ∧ BoundU x := by
  obtain ⟨n, rfl⟩ := hs
  exact opens_u64 Tryz.underlying60 h fun _ => rfl

end Go.Proofs.YthcnpnogfblkcaaGreat

/- The row of SquarePastes, closed, if the law answers true for every input. -/
namespace Go.Proofs.YthcnpnogfblkcaaGreat
open Abs
open Go.ChangeShapes Go.WideShapes Go.ChangeAt Go.RowKit
set_option linter.unusedSimpArgs false
set_option linter.unusedVariables false

namespace squarePastes
/-- What the law is to answer. -/
def Law : Prop := ∀ (x0 : Dr) (x1 : List Nat × List Nat × List Nat) (x2 : List Nat), BoundD x0 → BoundB3 x1 → BoundB x2 → CallOK Tryz.prog 10 [x0.v, by3V x1, byV x2] (.sv (false, [.bool true]))

theorem calls (h : Law) {H : Type} {enc : TypeId × Value → H} {w : World} {base : Nat} {spare : Nat → Bool} {held : Bool} {v0 v1 v2 : Value} {d0 d1 d2 : DataW H} {p0 p1 p2 : List MemPlace}
    (h0 : DataW.Trod enc Tryz.prog w base spare held 42 v0 d0 p0) (hw0 : (d0.weights Tryz.prog 42).all (· ≤ reachBytes) = true)
    (h1 : DataW.Trod enc Tryz.prog w base spare held 72 v1 d1 p1) (hw1 : (d1.weights Tryz.prog 72).all (· ≤ reachBytes) = true)
    (h2 : DataW.Trod enc Tryz.prog w base spare held 39 v2 d2 p2) (hw2 : (d2.weights Tryz.prog 39).all (· ≤ reachBytes) = true) (hs2 : ∃ a len cap, v2 = Value.slice a len cap)
    : Calls Tryz.prog 10 #[v0, v1, v2] w fun e w' => e = .returned (.bool true) ∧ Below w.heap.size w w' := by
  obtain ⟨x0, hx0, hb0⟩ := open_draft h0 hw0
  obtain ⟨x1, hx1, hb1⟩ := open_bytes3 h1 hw1
  obtain ⟨x2, hx2, hb2, _⟩ := open_bytes h2 hw2 hs2
  refine ((h x0 x1 x2 hb0 hb1 hb2).2 w (fun _ => False) #[v0, v1, v2] (fun b hb => hb.elim) rfl (fun j s u hs hu => ?_)).mono ?_
  · match j, hs, hu with
    | 0, hs, hu =>
      simp at hs hu
      subst hs hu
      exact hx0
    | 1, hs, hu =>
      simp at hs hu
      subst hs hu
      exact hx1
    | 2, hs, hu =>
      simp at hs hu
      subst hs hu
      exact hx2
    | j + 3, hs, _ => simp at hs
  · rintro e w' ⟨u, rfl, hu, hbel⟩
    obtain ⟨c, hc, hc2⟩ := hu
    simp at hc
    subst hc
    cases hc2
    exact ⟨rfl, hbel⟩

set_option maxRecDepth 100000 in
theorem lifted (law : Law) (os : Os) (started : os.Started) (H : Type) (enc : TypeId × Value → H) :
    ReturnsInHanded {} Tryz.checked os 10 .any (Rows.squarePastesSpec.pre6 enc Tryz.prog Tryz.f10 Rows.squarePastesRow.domain false) (Rows.squarePastesSpec.post enc Tryz.prog Tryz.f10 false true false false) := by
  refine returnsInHanded_of_change_sized (C := Tryz.checked) own started (by kernel_rfl) Tryz.func10
    (ChangeSpec.witness6 (enc := enc) (C := Tryz.checked) false ⟨#[], #[.agg #[.slice none 0 0, .slice none 0 0], .agg #[.slice none 0 0, .slice none 0 0, .slice none 0 0], .slice none 0 0], []⟩ 8 (by kernel_rfl) (by kernel_rfl) (by kernel_rfl) (by kernel_rfl)) ?_
  intro W base args ds gs before hval0 hW hcnd hsz0 _
  have hsz : (DataW.weightsEach Tryz.prog (Tryz.f10.params.toList ++ Rows.squarePastesSpec.plain.varTypes Tryz.prog) (ds ++ gs)).all (· ≤ reachBytes) = true := hsz0
  have hW' := hW
  obtain ⟨p, q, hA0, hV, rfl, hfz, hnd⟩ := hW
  have hA : DataW.TrodAll enc Tryz.prog W 0 (fun _ => true) true Tryz.f10.params.toList args.toList ds p := hA0
  rw [Tryz.params10] at hA hsz
  obtain ⟨v0, vs0, d0, ds0, p0, q0, hargs0, rfl, rfl, h0, r0⟩ := trodAll_cons hA
  obtain ⟨v1, vs1, d1, ds1, p1, q1, hargs1, rfl, rfl, h1, r1⟩ := trodAll_cons r0
  obtain ⟨v2, vs2, d2, ds2, p2, q2, hargs2, rfl, rfl, h2, r2⟩ := trodAll_cons r1
  obtain ⟨rfl, rfl, rfl⟩ := trodAll_nil r2
  obtain rfl : args = #[v0, v1, v2] := by cases args; simp_all
  obtain ⟨rfl, rfl⟩ := trodVars_none hV
  have hw0 : (d0.weights Tryz.prog 42).all (· ≤ reachBytes) = true := by
    refine List.all_eq_true.2 fun n hn => List.all_eq_true.1 hsz n ?_
    exact DataW.weights_mem_each (j := 0) (t := 42) (d := d0) rfl rfl n hn
  have lt0 : ∀ x ∈ p0, x.block < W.heap.size := by obtain ⟨m, hm⟩ := h0; exact DataW.trod_lt m _ _ _ hm
  have hw1 : (d1.weights Tryz.prog 72).all (· ≤ reachBytes) = true := by
    refine List.all_eq_true.2 fun n hn => List.all_eq_true.1 hsz n ?_
    exact DataW.weights_mem_each (j := 1) (t := 72) (d := d1) rfl rfl n hn
  have lt1 : ∀ x ∈ p1, x.block < W.heap.size := by obtain ⟨m, hm⟩ := h1; exact DataW.trod_lt m _ _ _ hm
  have hw2 : (d2.weights Tryz.prog 39).all (· ≤ reachBytes) = true := by
    refine List.all_eq_true.2 fun n hn => List.all_eq_true.1 hsz n ?_
    exact DataW.weights_mem_each (j := 2) (t := 39) (d := d2) rfl rfl n hn
  have lt2 : ∀ x ∈ p2, x.block < W.heap.size := by obtain ⟨m, hm⟩ := h2; exact DataW.trod_lt m _ _ _ hm
  have hs2 := okWide_slice Tryz.underlying39 (hval0 2 _ _ (by rw [← Array.getElem?_toList, Tryz.params10]; rfl) rfl)
  clear hA0 hval0 hsz0 hsz
  refine (calls law h0 hw0 h1 hw1 h2 hw2 hs2).mono fun e W' ⟨he, bel⟩ => ?_
  subst he
  exact ⟨_, rfl, _, _, _, [], _, [], hW', trodAll_mk1 (shut_bool Tryz.underlying4 _), (trodAll_cons_mk (Below.trod laidOut (by kernel_rfl) (of_decide_eq_true (by kernel_rfl)) h0 bel lt0) (trodAll_cons_mk (Below.trod laidOut (by kernel_rfl) (of_decide_eq_true (by kernel_rfl)) h1 bel lt1) (trodAll_cons_mk (Below.trod laidOut (by kernel_rfl) (of_decide_eq_true (by kernel_rfl)) h2 bel lt2) trodAll_mk0))), rfl, bel.frame _, fun h => by cases h⟩

theorem over (law : Law) : Rows.squarePastesRow.holds Tryz.pinned (OpenSpec.ofChange Rows.squarePastesSpec) :=
  OpenClaim.holds_of_wide 10 Tryz.f10 rfl rfl rfl rfl rfl rfl rfl ⟨rfl, rfl, rfl, rfl, rfl⟩ rfl rfl rfl rfl rfl (by kernel_rfl) Tryz.func10 (by kernel_rfl)
    (of_decide_eq_true (by kernel_rfl)) (by unfold Func.isWrapper; first | (rw [if_pos (by decide +kernel)]; kernel_rfl) | (rw [if_neg (by decide +kernel)]; exact ⟨rfl, rfl⟩))
    (fun os started H enc _ => lifted law os started H enc)
end squarePastes
end Go.Proofs.YthcnpnogfblkcaaGreat

/- SquarePastes answers true for every input. -/
namespace Go.Proofs.YthcnpnogfblkcaaGreat
open Abs
theorem squarePastes_holds : Rows.SquarePastesSaid := squarePastes.over fun d x e hd hx he => lawPastes_ok d x e hd hx he
end Go.Proofs.YthcnpnogfblkcaaGreat
