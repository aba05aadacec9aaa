/- Arguments that are lists of columns, or a column, opened to their cells: what a row's walk asks of them. -/
import Derived.Test.YtkggdnnhgafopaaDoorK
import Derived.Deep.Slices
import Derived.Deep.Fields
import Derived.ChangeSame
import Derived.OpenShut
import Derived.Lib.SmallJoins
namespace Go.Proofs.YtkggdnnhgafopaaDoor
open Go.ChangeShapes Go.WideShapes Go.ChangeAt Go.RowKit Go.Proofs.YtkggdnnhgafopaaDoor.Kp Go.Proofs.YtkggdnnhgafopaaDoorW.PrintWords
set_option linter.unusedVariables false
set_option linter.unusedSimpArgs false
theorem laidOut : laidOutB Tryd.prog = true := by kernel_rfl
theorem ownK : ownKnob Tryd.prog.godebug = none := by kernel_rfl
theorem three25 : Tryd.prog.cellsOf 25 = 3 := by kernel_rfl
theorem one3 : Tryd.prog.cellsOf 3 = 1 := by kernel_rfl
theorem one23 : Tryd.prog.cellsOf 23 = 1 := by kernel_rfl
theorem one9 : Tryd.prog.cellsOf 9 = 1 := by kernel_rfl
set_option maxRecDepth 100000 in
theorem open_cols {H : Type} {enc : TypeId × Value → H} {W : World} {base : Nat} {v : Value} {d : DataW H} {p : List MemPlace} (hv : Value.okWide Tryd.prog W .any base 22 v) (h : DataW.Trod enc Tryd.prog W 0 (fun _ => true) true 22 v d p) :
    ∃ (A : Option Addr) (cap : Nat) (l : List S25), v = .slice A l.length cap ∧ l.length ≤ cap ∧ Kd.C k25 W A l.length l ∧ (d = .nil ∧ l.length = 0 ∨ ∃ es sp, d = .slice es sp ∧ es.length = l.length) := by
  obtain ⟨A, len, cap, rfl⟩ := okWide_slice Tryd.underlying22 hv
  obtain ⟨fuel, hf⟩ := h
  rcases Go.Deep.open_slice Tryd.underlying22 hf with ⟨hcs, hx⟩ | ⟨a, len', cap', m, nf, D, Pl, hcs, _, hl, hm, hmm, hx, hi⟩
  · simp [Value.cells] at hcs
    obtain ⟨rfl, rfl, rfl⟩ := hcs
    simp only [Prod.mk.injEq] at hx
    exact ⟨none, 0, [], rfl, Nat.le_refl _, ⟨rfl, by decide, fun h => absurd h (by decide)⟩, .inl ⟨hx.1, rfl⟩⟩
  · simp [Value.cells] at hcs
    obtain ⟨rfl, rfl, rfl⟩ := hcs
    simp only [Prod.mk.injEq] at hx
    have hlm : len ≤ m := by rw [hmm]; split <;> omega
    have pick : ∀ i : Nat, ∃ x : S25, i < len → W.cell? (a.add (i * 3 + 0)) = some (.int .i64 x.f0) ∧ W.cell? (a.add (i * 3 + 1)) = some (.string x.f1) ∧ W.cell? (a.add (i * 3 + 2)) = some (.int .i64 x.f2) := by
      intro i
      by_cases him : i < len
      · obtain ⟨cs, hc, ht⟩ := hi i (by omega)
        rw [three25] at hc
        obtain ⟨ys, n, _, _, hlen, hsz, hfld⟩ := DataW.trod_struct Tryd.underlying25 ht
        obtain ⟨_, hcl, hat⟩ := World.cells?_some hc
        obtain ⟨v0, v1, v2, rfl⟩ : ∃ v0 v1 v2, cs = [v0, v1, v2] := by
          match cs, hcl with
          | [v0, v1, v2], _ => exact ⟨v0, v1, v2, rfl⟩
        have hc0 : W.cell? (a.add (i * 3 + 0)) = some v0 := by rw [← Go.Deep.add_add]; exact hat 0 (show 0 < 3 by decide)
        have hc1 : W.cell? (a.add (i * 3 + 1)) = some v1 := by rw [← Go.Deep.add_add]; exact hat 1 (show 1 < 3 by decide)
        have hc2 : W.cell? (a.add (i * 3 + 2)) = some v2 := by rw [← Go.Deep.add_add]; exact hat 2 (show 2 < 3 by decide)
        have ht0 := hfld 0 _ rfl
        have ht1 := hfld 1 _ rfl
        have ht2 := hfld 2 _ rfl
        obtain ⟨y0, r0⟩ : ∃ y, ys[0]? = some y := ⟨_, List.getElem?_eq_getElem (by rw [hsz]; show 0 < 3; decide)⟩
        obtain ⟨y1, r1⟩ : ∃ y, ys[1]? = some y := ⟨_, List.getElem?_eq_getElem (by rw [hsz]; show 1 < 3; decide)⟩
        obtain ⟨y2, r2⟩ : ∃ y, ys[2]? = some y := ⟨_, List.getElem?_eq_getElem (by rw [hsz]; show 2 < 3; decide)⟩
        rw [r0] at ht0
        rw [r1] at ht1
        rw [r2] at ht2
        replace ht0 : DataW.trod enc Tryd.prog W 0 (fun _ => true) true n 3 [v0] = some y0 := by have e : DataW.trod enc Tryd.prog W 0 (fun _ => true) true n 3 (([v0, v1, v2].drop 0).take (Tryd.prog.cellsOf 3)) = some y0 := ht0; rw [one3] at e; exact e
        replace ht1 : DataW.trod enc Tryd.prog W 0 (fun _ => true) true n 9 [v1] = some y1 := by have e : DataW.trod enc Tryd.prog W 0 (fun _ => true) true n 9 (([v0, v1, v2].drop 1).take (Tryd.prog.cellsOf 9)) = some y1 := ht1; rw [one9] at e; exact e
        replace ht2 : DataW.trod enc Tryd.prog W 0 (fun _ => true) true n 23 [v2] = some y2 := by have e : DataW.trod enc Tryd.prog W 0 (fun _ => true) true n 23 (([v0, v1, v2].drop 2).take (Tryd.prog.cellsOf 23)) = some y2 := ht2; rw [one23] at e; exact e
        obtain ⟨n0, e0, _, _⟩ := DataW.trod_int Tryd.underlying3 ht0
        obtain ⟨s1, e1, _, _⟩ := DataW.trod_string Tryd.underlying9 ht1
        obtain ⟨n2, e2, _, _⟩ := DataW.trod_int Tryd.underlying23 ht2
        simp only [List.cons.injEq, and_true] at e0 e1 e2
        subst e0; subst e1; subst e2
        exact ⟨⟨n0, s1, n2⟩, fun _ => ⟨hc0, hc1, hc2⟩⟩
      · exact ⟨z25, fun h => absurd h him⟩
    obtain ⟨f, hfp⟩ := Classical.skolem.1 pick
    have hlen : ((List.range len).map f).length = len := by simp
    refine ⟨some a, cap, (List.range len).map f, by rw [hlen], by rw [hlen]; exact hl, ?_, .inr ⟨_, _, hx.1, by simp⟩⟩
    refine ⟨rfl, by rw [hlen]; exact Nat.le_trans hl hm, fun _ => ⟨a, rfl, fun j x hj => ?_⟩⟩
    have hjl : j < len := by
      rcases Nat.lt_or_ge j len with h | h
      · exact h
      · rw [List.getElem?_eq_none (by rw [hlen]; exact h)] at hj; cases hj
    have hjx : x = f j := by
      rw [List.getElem?_map, List.getElem?_range hjl] at hj
      exact (Option.some.inj hj).symm
    subst hjx
    obtain ⟨h0, h1, h2⟩ := hfp j hjl
    refine ⟨_, rfl, k25_mk W (f j), fun i u hiu => ?_⟩
    match i, hiu with
    | 0, hiu => cases hiu; exact h0
    | 1, hiu => cases hiu; exact h1
    | 2, hiu => cases hiu; exact h2
    | i + 3, hiu => simp at hiu
set_option maxRecDepth 100000 in
theorem open_col {H : Type} {enc : TypeId × Value → H} {W : World} {base : Nat} {v : Value} {d : DataW H} {p : List MemPlace} (hv : Value.okWide Tryd.prog W .any base 25 v) (h : DataW.Trod enc Tryd.prog W 0 (fun _ => true) true 25 v d p) :
    ∃ x : S25, v = .agg #[.int .i64 x.f0, .string x.f1, .int .i64 x.f2] := by
  obtain ⟨v0, v1, v2, y0, y1, y2, n, rfl, _, _, h0, h1, h2⟩ := Go.Joins.open_agg3 Tryd.underlying25 (by kernel_rfl) three25 hv h
  obtain ⟨n0, e0, _, _⟩ := DataW.trod_int Tryd.underlying3 h0
  obtain ⟨s1, e1, _, _⟩ := DataW.trod_string Tryd.underlying9 h1
  obtain ⟨n2, e2, _, _⟩ := DataW.trod_int Tryd.underlying23 h2
  simp only [List.cons.injEq, and_true] at e0 e1 e2
  subst e0; subst e1; subst e2
  exact ⟨⟨n0, s1, n2⟩, rfl⟩
end Go.Proofs.YtkggdnnhgafopaaDoor
